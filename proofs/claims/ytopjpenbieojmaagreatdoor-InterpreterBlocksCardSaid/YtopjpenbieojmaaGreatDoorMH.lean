import Derived.Test.YtopjpenbieojmaaGreatDoorGx
import Derived.Test.YtopjpenbieojmaaGreatDoorTy
import Derived.Test.YtopjpenbieojmaaGreatDoorMB
namespace Go.Proofs.YtopjpenbieojmaaGreatDoor
open Go.RowKit
open Nat renaming reduceAdd → nA,reduceSub → nS,reduceMul → nM,reduceEqDiff → nE,reduceLeDiff → nL,reduceLT → nT,reduceBEq → nB
open Int renaming reduceLT → iT,reduceToNat → iN,reduceEq → iE
set_option linter.unusedVariables false
set_option linter.unusedSimpArgs false
set_option maxRecDepth 100000
set_option maxHeartbeats 8000000
structure L47Setting where
 Table : R45Table
 From : ApiPos
 deriving DecidableEq
def encL47Setting (x : L47Setting) : List D := [.int .i64 x.Table.Work.e0.X,.int .i64 x.Table.Work.e0.Y,.int .i64 x.Table.Work.e0.Z,.int .i64 x.Table.Work.e1.X,.int .i64 x.Table.Work.e1.Y,.int .i64 x.Table.Work.e1.Z,.int .i64 x.Table.Work.e2.X,.int .i64 x.Table.Work.e2.Y,.int .i64 x.Table.Work.e2.Z,.int .i64 x.Table.Work.e3.X,.int .i64 x.Table.Work.e3.Y,.int .i64 x.Table.Work.e3.Z,.int .i64 x.Table.Work.e4.X,.int .i64 x.Table.Work.e4.Y,.int .i64 x.Table.Work.e4.Z,.int .i64 x.Table.Work.e5.X,.int .i64 x.Table.Work.e5.Y,.int .i64 x.Table.Work.e5.Z,.list (List.map encR45Length x.Table.Lengths),.int .i64 x.From.X,.int .i64 x.From.Y,.int .i64 x.From.Z]
theorem ENMH : type_of% (@encL47Setting.eq_1) := @encL47Setting.eq_1
theorem EMH : type_of% (And.intro @SE <| And.intro @ENMH <| @ENMB) := And.intro @SE <| And.intro @ENMH <| @ENMB
theorem FMH : type_of% (And.intro @SF <| And.intro @ENMH <| @ENMB) := And.intro @SF <| And.intro @ENMH <| @ENMB
def r41_Few (a0 : (List ApiBlock)) (a1 : Int) : Option Bool := if (decide ((a0.length : Int) > a1)) = true then some false else bindX (guardO (okIdx a0) ( rangeX (fun (i1 : Nat) (e1 : ApiBlock) (v1 : Unit)=>if ((decide ((e1.Words.length : Int) > 20)) || (decide ((e1.Comment.length : Int) > 120))) = true then some (.ret (.ret false)) else some (.go ())) (fun (v1 : Unit)=>some (.go ())) a0 0 ())) fun (v2 : Unit)=>some true
theorem r41_Few_spec {a0 : (List ApiBlock)} {a1 : Int} {y : Bool} (h : r41_Few a0 a1 = some y) : Spec gP 54 [.d (.list (List.map encApiBlock a0)),.d (.int .i64 a1)] (.d (.bool y)) := by
 refine spec_mir Tryz.func54 rfl (by kernel_rfl) (by kernel_rfl) (fun y : Bool=>.d (.bool y)) ?_ h
 unfold r41_Few
 simp only [List.replicate,List.length,nS,nA,Tryz.ntmps54,SV]
 refine .sR fun e h=>?_
 simp only [seval,EMH]
 refine mU e (.seqK (.sR fun e h=>?_)) h
 simp only [seval,EMH,und_39]
 refine mU e (.cond rfl (fun hb2=>?_) (fun hb2=>?_)) h
 refine .sR fun e h=>?_
 simp only [seval,EMH]
 refine mU e (.ret fun e h=>?_) h
 cases h
 simp only [seval,FMH,Tryz.results54]
 refine .skip (Mir.toK (.seqK (.sR fun e h=>?_)))
 simp only [seval,EMH]
 refine mU e (Mir.join (fun v2 : Unit=>(us 32)) (fun v2=>⟨[],[]⟩) (fun _=>rfl) ?_ ?_) h
 refine .block (.guard fun qg67=>Mir.range (fun (i1 : Nat) (v1 : Unit)=>([.d (.list (List.map encApiBlock a0)),U,U,U,U,.d (.int .i64 (i1 : Int))] ++ us 26)) (fun i1 v1=>⟨[],[]⟩) qg67 (fun _ _=>rfl) (by simp only [seval,FMH,zNI]) (by simp only [seval,FMH,zNI]) ?_ ?_)
 intro i1 e1 v1 qr65
 refine .seqK (.sR fun e h=>?_)
 simp only [seval,EMH,und_39,qr65]
 refine mU e (.condT rfl (.skip (Mir.toK (.seqK (.block (.seqK (.joinV [.d (.list (List.map encApiBlock a0)),U,U,U,U,.d (.int .i64 (i1 : Int)),U,U,U,U,U,U,U,U,U,U,U,U,U,U,U,U,U,U,U,U,U,U,U,U,U,.d (.bool ((decide ((e1.Words.length : Int) > 20)) || (decide ((e1.Comment.length : Int) > 120))))] ⟨[],[]⟩ rfl ?_ ?_))))))) h
 refine SWs.region ?_
 rcases Bool.eq_false_or_eq_true (decide ((e1.Words.length : Int) > 20)) with hb70 | hb70
 simp only [seval,EMH,SL,PB,und_39,sz_32,qr65,Int.toNat_natCast,fld_32_1,sz_30,ag_30,und_30,hb70]
 simp only [seval,EMH,SL,PB,und_39,sz_32,qr65,Int.toNat_natCast,fld_32_1,sz_30,ag_30,und_30,fld_32_2,sz_9,ag_9,und_9,hb70]
 refine Mir.toK (.cond rfl (fun hb72=>?_) (fun hb72=>?_))
 refine .sR fun e h=>?_
 simp only [seval,EMH]
 refine mU e (.ret fun e h=>?_) h
 cases h
 simp only [seval,FMH,Tryz.results54]
 refine .skip (Mir.toB (Mir.toK (.region fun e h=>?_)))
 simp only [seval,EMH]
 cases h
 simp only [seval,FMH,Tryz.results54,qr65]
 intro v1 qd66
 refine .seqK (.sR fun e h=>?_)
 simp only [seval,EMH,und_39,qd66]
 refine mU e (.condF rfl (.exit fun e h=>?_)) h
 cases h
 simp only [seval,FMH,Tryz.results54]
 intro v2
 refine Mir.toK (.sR fun e h=>?_)
 simp only [seval,EMH]
 refine mU e (.ret fun e h=>?_) h
 cases h
 simp only [seval,FMH,Tryz.results54]
def r47_Few (a0 : (List ApiBlock)) (a1 : Int) : Option Bool := bindO (r41_Few a0 a1) fun (y1 : Bool)=>if (!y1) = true then some false else bindX (guardO (okIdx a0) ( rangeX (fun (i1 : Nat) (e1 : ApiBlock) (v1 : Unit)=>bindX (loopX (fun (v2 : Int)=>if (decide (v2 < (e1.Words.length : Int))) = true then bindO (gt e1.Words v2) fun (e2 : ApiWord)=>if (if (e2.Letter == 73) = true then (decide (e2.Value > 50000)) || (decide (e2.Value < (-50000))) else (e2.Letter == 74) && ((decide (e2.Value > 50000)) || (decide (e2.Value < (-50000))))) = true then some (.ret (.ret (.ret (.ret false)))) else some (.go (IntKind.i64.wrap (v2 + 1))) else some (.ret (.go ()))) fuel 0) fun (v3 : Unit)=>some (.go ())) (fun (v1 : Unit)=>some (.go ())) a0 0 ())) fun (v4 : Unit)=>some true
theorem r47_Few_spec {a0 : (List ApiBlock)} {a1 : Int} {y : Bool} (h : r47_Few a0 a1 = some y) : Spec gP 22 [.d (.list (List.map encApiBlock a0)),.d (.int .i64 a1)] (.d (.bool y)) := by
 refine spec_mir Tryz.func22 rfl (by kernel_rfl) (by kernel_rfl) (fun y : Bool=>.d (.bool y)) ?_ h
 unfold r47_Few
 simp only [List.replicate,List.length,nS,nA,Tryz.ntmps22,SV]
 refine .sR fun e h=>?_
 simp only [seval,EMH]
 refine mU e (.seqK (.seqK (.bind fun y1 hy1=>.region fun e h=>?_))) h
 simp only [seval,EMH]
 refine SpecS.by (r41_Few_spec hy1) (by simp only [seval,FMH]) ?_
 simp only [seval,EMH]
 refine mU e (.cond rfl (fun hb3=>?_) (fun hb3=>?_)) h
 refine .sR fun e h=>?_
 simp only [seval,EMH]
 refine mU e (.ret fun e h=>?_) h
 cases h
 simp only [seval,FMH,Tryz.results22]
 refine .skip (Mir.toK (.seqK (.sR fun e h=>?_)))
 simp only [seval,EMH]
 refine mU e (Mir.join (fun v4 : Unit=>(us 54)) (fun v4=>⟨[],[]⟩) (fun _=>rfl) ?_ ?_) h
 refine .block (.guard fun q1=>Mir.range (fun (i1 : Nat) (v1 : Unit)=>([.d (.list (List.map encApiBlock a0)),U,U,U,U,.d (.int .i64 (i1 : Int))] ++ us 48)) (fun i1 v1=>⟨[],[]⟩) q1 (fun _ _=>rfl) (by simp only [seval,FMH,zNI]) (by simp only [seval,FMH,zNI]) ?_ ?_)
 intro i1 e1 v1 q2
 refine .seqK (.sR fun e h=>?_)
 simp only [seval,EMH,und_39,q2]
 refine mU e (.condT rfl (.skip (Mir.toK (.seqK (Mir.join (fun v3 : Unit=>([.d (.list (List.map encApiBlock a0)),U,U,U,U,.d (.int .i64 (i1 : Int))] ++ us 48)) (fun v3=>⟨[],[]⟩) (fun _=>rfl) ?_ ?_))))) h
 refine .block (.sR fun e h=>?_)
 simp only [seval,EMH]
 refine mU e (.block (Mir.loop (fun v2 : Int=>([.d (.list (List.map encApiBlock a0)),U,U,U,U,.d (.int .i64 (i1 : Int)),.d (.int .i64 v2)] ++ us 47)) (fun v2=>⟨[],[]⟩) (fun _=>rfl) (by simp only [seval,FMH]) (by simp only [seval,FMH]) fun v2=>.seqK (.sR fun e h=>?_))) h
 simp only [seval,EMH,und_39,sz_32,q2,Int.toNat_natCast,fld_32_1,sz_30,ag_30,und_30]
 refine mU e (.cond rfl (fun h1=>?_) (fun h1=>?_)) h
 refine .skip (Mir.toK (.seqK (.block (.seqK (.bind fun e2 q3=>?_)))))
 replace q3 := gt_ok q3
 refine .region fun e h=>?_
 simp only [seval,EMH,und_39,sz_32,q2,Int.toNat_natCast,fld_32_1,sz_30,ag_30,und_30,sz_117,q3,ag_117,zero_117]
 refine mU e (.seqK (.joinV [.d (.list (List.map encApiBlock a0)),U,U,U,U,.d (.int .i64 (i1 : Int)),.d (.int .i64 v2),U,U,U,U,U,U,U,U,U,U,U,U,U,U,U,U,U,U,U,U,U,U,U,U,U,U,U,U,U,U,U,U,U,U,U,U,U,U,U,U,U,U,U,U,U,U,.d (.bool (if (e2.Letter == 73) = true then (decide (e2.Value > 50000)) || (decide (e2.Value < (-50000))) else (e2.Letter == 74) && ((decide (e2.Value > 50000)) || (decide (e2.Value < (-50000))))))] ⟨[[.d (.int .u8 e2.Letter),.d (.int .i64 e2.Value)]],[]⟩ rfl ?_ ?_)) h
 refine SWs.region ?_
 rcases Bool.eq_false_or_eq_true (e2.Letter == 73) with h2 | h2
 rcases Bool.eq_false_or_eq_true (decide (e2.Value > 50000)) with h3 | h3
 simp only [seval,EMH,SL,PB,fld_117_0,sz_5,ag_5,fld_117_1,sz_2,ag_2,h2,h3]
 simp only [seval,EMH,SL,PB,fld_117_0,sz_5,ag_5,fld_117_1,sz_2,ag_2,h2,h3]
 rcases Bool.eq_false_or_eq_true (e2.Letter == 74) with h4 | h4
 rcases Bool.eq_false_or_eq_true (decide (e2.Value > 50000)) with h5 | h5
 simp only [seval,EMH,SL,PB,fld_117_0,sz_5,ag_5,fld_117_1,sz_2,ag_2,h2,h4,h5]
 simp only [seval,EMH,SL,PB,fld_117_0,sz_5,ag_5,fld_117_1,sz_2,ag_2,h2,h4,h5]
 simp only [seval,EMH,SL,PB,fld_117_0,sz_5,ag_5,h2,h4]
 refine Mir.toK (.cond rfl (fun h6=>?_) (fun h6=>?_))
 refine .sR fun e h=>?_
 simp only [seval,EMH]
 refine mU e (.ret fun e h=>?_) h
 cases h
 simp only [seval,FMH,Tryz.results22]
 refine .skip (Mir.toB (Mir.toK (.region fun e h=>?_)))
 simp only [seval,EMH]
 cases h
 simp only [seval,FMH,Tryz.results22]
 refine .exit fun e h=>?_
 cases h
 simp only [seval,FMH,Tryz.results22]
 intro v3
 refine Mir.toK (.region fun e h=>?_)
 simp only [seval,EMH]
 cases h
 simp only [seval,FMH,Tryz.results22,q2]
 intro v1 q4
 refine .seqK (.sR fun e h=>?_)
 simp only [seval,EMH,und_39,q4]
 refine mU e (.condF rfl (.exit fun e h=>?_)) h
 cases h
 simp only [seval,FMH,Tryz.results22]
 intro v4
 refine Mir.toK (.sR fun e h=>?_)
 simp only [seval,EMH]
 refine mU e (.ret fun e h=>?_) h
 cases h
 simp only [seval,FMH,Tryz.results22]
def l47_few (a0 : (List ApiBlock)) (a1 : L47Setting) : Option Bool := bindO (bindO (r47_Few a0 40) fun (y1 : Bool)=>if y1 = true then some (decide ((a1.Table.Lengths.length : Int) ≤ 20)) else some false) fun (v1 : Bool)=>some v1
theorem l47_few_spec {a0 : (List ApiBlock)} {a1 : L47Setting} {y : Bool} (h : l47_few a0 a1 = some y) : Spec gP 6 [.d (.list (List.map encApiBlock a0)),.agg [.d (.int .i64 a1.Table.Work.e0.X),.d (.int .i64 a1.Table.Work.e0.Y),.d (.int .i64 a1.Table.Work.e0.Z),.d (.int .i64 a1.Table.Work.e1.X),.d (.int .i64 a1.Table.Work.e1.Y),.d (.int .i64 a1.Table.Work.e1.Z),.d (.int .i64 a1.Table.Work.e2.X),.d (.int .i64 a1.Table.Work.e2.Y),.d (.int .i64 a1.Table.Work.e2.Z),.d (.int .i64 a1.Table.Work.e3.X),.d (.int .i64 a1.Table.Work.e3.Y),.d (.int .i64 a1.Table.Work.e3.Z),.d (.int .i64 a1.Table.Work.e4.X),.d (.int .i64 a1.Table.Work.e4.Y),.d (.int .i64 a1.Table.Work.e4.Z),.d (.int .i64 a1.Table.Work.e5.X),.d (.int .i64 a1.Table.Work.e5.Y),.d (.int .i64 a1.Table.Work.e5.Z),.d (.list (List.map encR45Length a1.Table.Lengths)),.d (.int .i64 a1.From.X),.d (.int .i64 a1.From.Y),.d (.int .i64 a1.From.Z)]] (.d (.bool y)) := by
 refine spec_mir Tryz.func6 rfl (by kernel_rfl) (by kernel_rfl) (fun y : Bool=>.d (.bool y)) ?_ h
 unfold l47_few
 simp only [List.replicate,List.length,nS,nA,Tryz.ntmps6,SV]
 refine .sR fun e h=>?_
 simp only [seval,EMH]
 refine mU e (.seqK (Mir.joinO (fun v1 : Bool=>([U,U,U,U,.d (.bool v1)] ++ us 9)) (fun v1=>⟨[[.d (.int .i64 a1.Table.Work.e0.X),.d (.int .i64 a1.Table.Work.e0.Y),.d (.int .i64 a1.Table.Work.e0.Z),.d (.int .i64 a1.Table.Work.e1.X),.d (.int .i64 a1.Table.Work.e1.Y),.d (.int .i64 a1.Table.Work.e1.Z),.d (.int .i64 a1.Table.Work.e2.X),.d (.int .i64 a1.Table.Work.e2.Y),.d (.int .i64 a1.Table.Work.e2.Z),.d (.int .i64 a1.Table.Work.e3.X),.d (.int .i64 a1.Table.Work.e3.Y),.d (.int .i64 a1.Table.Work.e3.Z),.d (.int .i64 a1.Table.Work.e4.X),.d (.int .i64 a1.Table.Work.e4.Y),.d (.int .i64 a1.Table.Work.e4.Z),.d (.int .i64 a1.Table.Work.e5.X),.d (.int .i64 a1.Table.Work.e5.Y),.d (.int .i64 a1.Table.Work.e5.Z),.d (.list (List.map encR45Length a1.Table.Lengths)),.d (.int .i64 a1.From.X),.d (.int .i64 a1.From.Y),.d (.int .i64 a1.From.Z)]],[]⟩) (fun _=>rfl) ?_ ?_)) h
 refine .bind fun y1 hy1=>.ite (fun hb2=>?_) (fun hb2=>?_)
 refine .region fun e h=>?_
 simp only [seval,EMH,hb2]
 refine SpecS.by (r47_Few_spec hy1) (by simp only [seval,FMH,hb2]) ?_
 simp only [seval,EMH,fld_41_0,sz_36,fld_36_1,sz_34,ag_34,und_34,hb2]
 cases h
 simp only [seval,FMH,hb2]
 refine .region fun e h=>?_
 simp only [seval,EMH,hb2]
 refine SpecS.by (r47_Few_spec hy1) (by simp only [seval,FMH,hb2]) ?_
 simp only [seval,EMH,hb2]
 cases h
 simp only [seval,FMH,hb2]
 intro v1
 refine Mir.toK (.ret fun e h=>?_)
 cases h
 simp only [seval,FMH,Tryz.results6]
def r47_far (a0 : Int) : Option Bool := some ((decide (a0 > 10000000)) || (decide (a0 < (-10000000))))
theorem r47_far_spec {a0 : Int} {y : Bool} (h : r47_far a0 = some y) : Spec gP 71 [.d (.int .i64 a0)] (.d (.bool y)) := by
 refine spec_mir Tryz.func71 rfl (by kernel_rfl) (by kernel_rfl) (fun y : Bool=>.d (.bool y)) ?_ h
 unfold r47_far
 simp only [List.replicate,List.length,nS,nA,Tryz.ntmps71,SV]
 refine .sR fun e h=>?_
 simp only [seval,EMH]
 refine mU e (.seqK (.joinV ([U,U,.d (.bool ((decide (a0 > 10000000)) || (decide (a0 < (-10000000)))))] ++ us 6) ⟨[],[]⟩ rfl ?_ ?_)) h
 refine SWs.region ?_
 rcases Bool.eq_false_or_eq_true (decide (a0 > 10000000)) with hb1 | hb1
 simp only [seval,EMH,SL,PB,hb1]
 simp only [seval,EMH,SL,PB,hb1]
 refine Mir.toK (.ret fun e h=>?_)
 cases h
 simp only [seval,FMH,Tryz.results71]
def r47_InRange (a0 : ApiPos) : Option Bool := bindO (bindO (r47_far a0.X) fun (y1 : Bool)=>if y1 = true then some false else bindO (r47_far a0.Y) fun (y2 : Bool)=>if y2 = true then some false else bindO (r47_far a0.Z) fun (y3 : Bool)=>some (!y3)) fun (v1 : Bool)=>some v1
theorem r47_InRange_spec {a0 : ApiPos} {y : Bool} (h : r47_InRange a0 = some y) : Spec gP 38 [.agg [.d (.int .i64 a0.X),.d (.int .i64 a0.Y),.d (.int .i64 a0.Z)]] (.d (.bool y)) := by
 refine spec_mir Tryz.func38 rfl (by kernel_rfl) (by kernel_rfl) (fun y : Bool=>.d (.bool y)) ?_ h
 unfold r47_InRange
 simp only [List.replicate,List.length,nS,nA,Tryz.ntmps38,SV]
 refine .sR fun e h=>?_
 simp only [seval,EMH]
 refine mU e (.seqK (Mir.joinO (fun v1 : Bool=>([U,U,.d (.bool v1)] ++ us 16)) (fun v1=>⟨[[.d (.int .i64 a0.X),.d (.int .i64 a0.Y),.d (.int .i64 a0.Z)]],[]⟩) (fun _=>rfl) ?_ ?_)) h
 refine .bind fun y1 hy1=>.ite (fun hb2=>?_) (fun hb2=>?_)
 refine .region fun e h=>?_
 simp only [seval,EMH,fld_27_0,sz_2,ag_2,hb2]
 refine SpecS.by (r47_far_spec hy1) (by simp only [seval,FMH,hb2]) ?_
 simp only [seval,EMH,hb2]
 cases h
 simp only [seval,FMH,hb2]
 refine .bind fun y2 hy3=>.ite (fun hb4=>?_) (fun hb4=>?_)
 refine .region fun e h=>?_
 simp only [seval,EMH,fld_27_0,sz_2,ag_2,hb2,hb4]
 refine SpecS.by (r47_far_spec hy1) (by simp only [seval,FMH,hb2,hb4]) ?_
 simp only [seval,EMH,fld_27_1,sz_2,ag_2,hb2,hb4]
 refine SpecS.by (r47_far_spec hy3) (by simp only [seval,FMH,hb2,hb4]) ?_
 simp only [seval,EMH,hb2,hb4]
 cases h
 simp only [seval,FMH,hb2,hb4]
 refine .bind fun y3 hy5=>.region fun e h=>?_
 simp only [seval,EMH,fld_27_0,sz_2,ag_2,hb2,hb4]
 refine SpecS.by (r47_far_spec hy1) (by simp only [seval,FMH,hb2,hb4]) ?_
 simp only [seval,EMH,fld_27_1,sz_2,ag_2,hb2,hb4]
 refine SpecS.by (r47_far_spec hy3) (by simp only [seval,FMH,hb2,hb4]) ?_
 simp only [seval,EMH,fld_27_2,sz_2,ag_2,hb2,hb4]
 refine SpecS.by (r47_far_spec hy5) (by simp only [seval,FMH,hb2,hb4]) ?_
 simp only [seval,EMH,hb2,hb4]
 cases h
 simp only [seval,FMH,hb2,hb4]
 intro v1
 refine Mir.toK (.ret fun e h=>?_)
 cases h
 simp only [seval,FMH,Tryz.results38]
def r47_Same (a0 : (List ApiMotion)) (a1 : (List ApiMotion)) : Option Bool := if ((a0.length : Int) != (a1.length : Int)) = true then some false else bindX (guardO (okIdx a0) ( rangeX (fun (i1 : Nat) (e1 : ApiMotion) (v1 : Unit)=>bindO (gt a1 (i1 : Int)) fun (e2 : ApiMotion)=>if (!((e1.From.X == e2.From.X) && ((e1.From.Y == e2.From.Y) && ((e1.From.Z == e2.From.Z) && ((e1.To.X == e2.To.X) && ((e1.To.Y == e2.To.Y) && ((e1.To.Z == e2.To.Z) && ((e1.Rate == e2.Rate) && ((e1.Tool == e2.Tool) && (e1.Block == e2.Block)))))))))) = true then some (.ret (.ret false)) else some (.go ())) (fun (v1 : Unit)=>some (.go ())) a0 0 ())) fun (v2 : Unit)=>some true
theorem r47_Same_spec {a0 : (List ApiMotion)} {a1 : (List ApiMotion)} {y : Bool} (h : r47_Same a0 a1 = some y) : Spec gP 12 [.d (.list (List.map encApiMotion a0)),.d (.list (List.map encApiMotion a1))] (.d (.bool y)) := by
 refine spec_mir Tryz.func12 rfl (by kernel_rfl) (by kernel_rfl) (fun y : Bool=>.d (.bool y)) ?_ h
 unfold r47_Same
 simp only [List.replicate,List.length,nS,nA,Tryz.ntmps12,SV]
 refine .sR fun e h=>?_
 simp only [seval,EMH]
 refine mU e (.seqK (.sR fun e h=>?_)) h
 simp only [seval,EMH,und_43]
 refine mU e (.cond rfl (fun hb2=>?_) (fun hb2=>?_)) h
 refine .sR fun e h=>?_
 simp only [seval,EMH]
 refine mU e (.ret fun e h=>?_) h
 cases h
 simp only [seval,FMH,Tryz.results12]
 refine .skip (Mir.toK (.seqK (.sR fun e h=>?_)))
 simp only [seval,EMH]
 refine mU e (Mir.join (fun v2 : Unit=>(us 26)) (fun v2=>⟨[],[]⟩) (fun _=>rfl) ?_ ?_) h
 refine .block (.guard fun qg67=>Mir.range (fun (i1 : Nat) (v1 : Unit)=>([.d (.list (List.map encApiMotion a0)),.d (.list (List.map encApiMotion a1)),U,U,U,.d (.int .i64 (i1 : Int))] ++ us 20)) (fun i1 v1=>⟨[],[]⟩) qg67 (fun _ _=>rfl) (by simp only [seval,FMH,zNI]) (by simp only [seval,FMH,zNI]) ?_ ?_)
 intro i1 e1 v1 qr65
 refine .seqK (.sR fun e h=>?_)
 simp only [seval,EMH,und_43,qr65]
 refine mU e (.condT rfl (.skip (Mir.toK (.seqK (.block (.seqK (.bind fun e2 q70=>?_))))))) h
 replace q70 := gt_ok q70
 simp only [Int.toNat_natCast] at q70
 refine .regionD [] (by kernel_rfl) fun e h=>?_
 simp only [seval,EMH,SB,und_43,sz_73,qr65,Int.toNat_natCast,ag_73,q70,gE_73]
 refine mU e (.cond rfl (fun hb72=>?_) (fun hb72=>?_)) h
 refine .sR fun e h=>?_
 simp only [seval,EMH]
 refine mU e (.ret fun e h=>?_) h
 cases h
 simp only [seval,FMH,Tryz.results12]
 refine .skip (Mir.toB (Mir.toK (.region fun e h=>?_)))
 simp only [seval,EMH]
 cases h
 simp only [seval,FMH,Tryz.results12,qr65]
 intro v1 qd66
 refine .seqK (.sR fun e h=>?_)
 simp only [seval,EMH,und_43,qd66]
 refine mU e (.condF rfl (.exit fun e h=>?_)) h
 cases h
 simp only [seval,FMH,Tryz.results12]
 intro v2
 refine Mir.toK (.sR fun e h=>?_)
 simp only [seval,EMH]
 refine mU e (.ret fun e h=>?_) h
 cases h
 simp only [seval,FMH,Tryz.results12]
def r45_far (a0 : Int) : Option Bool := some ((decide (a0 > 10000000)) || (decide (a0 < (-10000000))))
theorem r45_far_spec {a0 : Int} {y : Bool} (h : r45_far a0 = some y) : Spec gP 94 [.d (.int .i64 a0)] (.d (.bool y)) := by
 refine spec_mir Tryz.func94 rfl (by kernel_rfl) (by kernel_rfl) (fun y : Bool=>.d (.bool y)) ?_ h
 unfold r45_far
 simp only [List.replicate,List.length,nS,nA,Tryz.ntmps94,SV]
 refine .sR fun e h=>?_
 simp only [seval,EMH]
 refine mU e (.seqK (.joinV ([U,U,.d (.bool ((decide (a0 > 10000000)) || (decide (a0 < (-10000000)))))] ++ us 6) ⟨[],[]⟩ rfl ?_ ?_)) h
 refine SWs.region ?_
 rcases Bool.eq_false_or_eq_true (decide (a0 > 10000000)) with hb1 | hb1
 simp only [seval,EMH,SL,PB,hb1]
 simp only [seval,EMH,SL,PB,hb1]
 refine Mir.toK (.ret fun e h=>?_)
 cases h
 simp only [seval,FMH,Tryz.results94]
def r45_out (a0 : ApiPos) : Option Bool := bindO (bindO (r45_far a0.X) fun (y1 : Bool)=>if y1 = true then some true else bindO (r45_far a0.Y) fun (y2 : Bool)=>if y2 = true then some true else bindO (r45_far a0.Z) fun (y3 : Bool)=>some y3) fun (v1 : Bool)=>some v1
theorem r45_out_spec {a0 : ApiPos} {y : Bool} (h : r45_out a0 = some y) : Spec gP 69 [.agg [.d (.int .i64 a0.X),.d (.int .i64 a0.Y),.d (.int .i64 a0.Z)]] (.d (.bool y)) := by
 refine spec_mir Tryz.func69 rfl (by kernel_rfl) (by kernel_rfl) (fun y : Bool=>.d (.bool y)) ?_ h
 unfold r45_out
 simp only [List.replicate,List.length,nS,nA,Tryz.ntmps69,SV]
 refine .sR fun e h=>?_
 simp only [seval,EMH]
 refine mU e (.seqK (Mir.joinO (fun v1 : Bool=>([U,U,.d (.bool v1)] ++ us 13)) (fun v1=>⟨[[.d (.int .i64 a0.X),.d (.int .i64 a0.Y),.d (.int .i64 a0.Z)]],[]⟩) (fun _=>rfl) ?_ ?_)) h
 refine .bind fun y1 hy1=>.ite (fun hb2=>?_) (fun hb2=>?_)
 refine .region fun e h=>?_
 simp only [seval,EMH,fld_27_0,sz_2,ag_2,hb2]
 refine SpecS.by (r45_far_spec hy1) (by simp only [seval,FMH,hb2]) ?_
 simp only [seval,EMH,hb2]
 cases h
 simp only [seval,FMH,hb2]
 refine .bind fun y2 hy3=>.ite (fun hb4=>?_) (fun hb4=>?_)
 refine .region fun e h=>?_
 simp only [seval,EMH,fld_27_0,sz_2,ag_2,hb2,hb4]
 refine SpecS.by (r45_far_spec hy1) (by simp only [seval,FMH,hb2,hb4]) ?_
 simp only [seval,EMH,fld_27_1,sz_2,ag_2,hb2,hb4]
 refine SpecS.by (r45_far_spec hy3) (by simp only [seval,FMH,hb2,hb4]) ?_
 simp only [seval,EMH,hb2,hb4]
 cases h
 simp only [seval,FMH,hb2,hb4]
 refine .bind fun y3 hy5=>.region fun e h=>?_
 simp only [seval,EMH,fld_27_0,sz_2,ag_2,hb2,hb4]
 refine SpecS.by (r45_far_spec hy1) (by simp only [seval,FMH,hb2,hb4]) ?_
 simp only [seval,EMH,fld_27_1,sz_2,ag_2,hb2,hb4]
 refine SpecS.by (r45_far_spec hy3) (by simp only [seval,FMH,hb2,hb4]) ?_
 simp only [seval,EMH,fld_27_2,sz_2,ag_2,hb2,hb4]
 refine SpecS.by (r45_far_spec hy5) (by simp only [seval,FMH,hb2,hb4]) ?_
 simp only [seval,EMH,hb2,hb4]
 cases h
 simp only [seval,FMH,hb2,hb4]
 intro v1
 refine Mir.toK (.ret fun e h=>?_)
 cases h
 simp only [seval,FMH,Tryz.results69]
def r45_entry (a0 : R45Length) : Option Bool := some ((decide (a0.Number ≥ 1)) && ((decide (a0.Number ≤ 999)) && ((decide (a0.Length ≥ 0)) && (decide (a0.Length ≤ 10000000)))))
theorem r45_entry_spec {a0 : R45Length} {y : Bool} (h : r45_entry a0 = some y) : Spec gP 70 [.agg [.d (.int .i64 a0.Number),.d (.int .i64 a0.Length)]] (.d (.bool y)) := by
 refine spec_mir Tryz.func70 rfl (by kernel_rfl) (by kernel_rfl) (fun y : Bool=>.d (.bool y)) ?_ h
 unfold r45_entry
 simp only [List.replicate,List.length,nS,nA,Tryz.ntmps70,SV]
 refine .sR fun e h=>?_
 simp only [seval,EMH]
 refine mU e (.seqK (.joinV ([U,U,.d (.bool ((decide (a0.Number ≥ 1)) && ((decide (a0.Number ≤ 999)) && ((decide (a0.Length ≥ 0)) && (decide (a0.Length ≤ 10000000))))))] ++ us 18) ⟨[[.d (.int .i64 a0.Number),.d (.int .i64 a0.Length)]],[]⟩ rfl ?_ ?_)) h
 refine SWs.region ?_
 rcases Bool.eq_false_or_eq_true (decide (a0.Number ≥ 1)) with hb1 | hb1
 rcases Bool.eq_false_or_eq_true (decide (a0.Number ≤ 999)) with hb2 | hb2
 rcases Bool.eq_false_or_eq_true (decide (a0.Length ≥ 0)) with hb3 | hb3
 simp only [seval,EMH,SL,PB,fld_94_0,sz_2,ag_2,fld_94_1,hb1,hb2,hb3]
 simp only [seval,EMH,SL,PB,fld_94_0,sz_2,ag_2,fld_94_1,hb1,hb2,hb3]
 simp only [seval,EMH,SL,PB,fld_94_0,sz_2,ag_2,hb1,hb2]
 simp only [seval,EMH,SL,PB,fld_94_0,sz_2,ag_2,hb1]
 refine Mir.toK (.ret fun e h=>?_)
 cases h
 simp only [seval,FMH,Tryz.results70]
def r45_Valid (a0 : R45Table) : Option Int := bindX (bindO (r45_out a0.Work.e0) fun (y1 : Bool)=>if y1 = true then some (.ret 1) else bindO (r45_out a0.Work.e1) fun (y2 : Bool)=>if y2 = true then some (.ret 1) else bindO (r45_out a0.Work.e2) fun (y3 : Bool)=>if y3 = true then some (.ret 1) else bindO (r45_out a0.Work.e3) fun (y4 : Bool)=>if y4 = true then some (.ret 1) else bindO (r45_out a0.Work.e4) fun (y5 : Bool)=>if y5 = true then some (.ret 1) else bindO (r45_out a0.Work.e5) fun (y6 : Bool)=>if y6 = true then some (.ret 1) else some (.go ())) fun (v1 : Unit)=>bindX (guardO (okIdx a0.Lengths) ( rangeX (fun (i1 : Nat) (e1 : R45Length) (v2 : Unit)=>bindO (bindO (r45_entry e1) fun (y7 : Bool)=>if y7 = true then if (decide ((i1 : Int) > 0)) = true then bindO (gt a0.Lengths (IntKind.i64.wrap ((i1 : Int) - 1))) fun (e2 : R45Length)=>some (decide (e1.Number ≤ e2.Number)) else some false else some true) fun (v3 : Bool)=>if v3 = true then some (.ret (.ret 1)) else some (.go ())) (fun (v2 : Unit)=>some (.go ())) a0.Lengths 0 ())) fun (v4 : Unit)=>some 0
theorem r45_Valid_spec {a0 : R45Table} {y : Int} (h : r45_Valid a0 = some y) : Spec gP 37 [.agg [.d (.int .i64 a0.Work.e0.X),.d (.int .i64 a0.Work.e0.Y),.d (.int .i64 a0.Work.e0.Z),.d (.int .i64 a0.Work.e1.X),.d (.int .i64 a0.Work.e1.Y),.d (.int .i64 a0.Work.e1.Z),.d (.int .i64 a0.Work.e2.X),.d (.int .i64 a0.Work.e2.Y),.d (.int .i64 a0.Work.e2.Z),.d (.int .i64 a0.Work.e3.X),.d (.int .i64 a0.Work.e3.Y),.d (.int .i64 a0.Work.e3.Z),.d (.int .i64 a0.Work.e4.X),.d (.int .i64 a0.Work.e4.Y),.d (.int .i64 a0.Work.e4.Z),.d (.int .i64 a0.Work.e5.X),.d (.int .i64 a0.Work.e5.Y),.d (.int .i64 a0.Work.e5.Z),.d (.list (List.map encR45Length a0.Lengths))]] (.d (.int .i64 y)) := by
 refine spec_mir Tryz.func37 rfl (by kernel_rfl) (by kernel_rfl) (fun y : Int=>.d (.int .i64 y)) ?_ h
 unfold r45_Valid
 simp only [List.replicate,List.length,nS,nA,Tryz.ntmps37,SV]
 refine .sR fun e h=>?_
 simp only [seval,EMH]
 refine mU e (.seqK (.sR fun e h=>?_)) h
 simp only [seval,EMH]
 refine mU e (Mir.join (fun v1 : Unit=>([U,.ptr 0 0] ++ us 46)) (fun v1=>⟨[[.d (.int .i64 a0.Work.e0.X),.d (.int .i64 a0.Work.e0.Y),.d (.int .i64 a0.Work.e0.Z),.d (.int .i64 a0.Work.e1.X),.d (.int .i64 a0.Work.e1.Y),.d (.int .i64 a0.Work.e1.Z),.d (.int .i64 a0.Work.e2.X),.d (.int .i64 a0.Work.e2.Y),.d (.int .i64 a0.Work.e2.Z),.d (.int .i64 a0.Work.e3.X),.d (.int .i64 a0.Work.e3.Y),.d (.int .i64 a0.Work.e3.Z),.d (.int .i64 a0.Work.e4.X),.d (.int .i64 a0.Work.e4.Y),.d (.int .i64 a0.Work.e4.Z),.d (.int .i64 a0.Work.e5.X),.d (.int .i64 a0.Work.e5.Y),.d (.int .i64 a0.Work.e5.Z),.d (.list (List.map encR45Length a0.Lengths))]],[]⟩) (fun _=>rfl) ?_ ?_) h
 refine .block (.loopR 15 (.seqK (.sR fun e h=>?_)))
 simp only [seval,EMH]
 refine mU e (.condT rfl (.skip (Mir.toK (.seqK (.block (.seqK (.bind fun y1 hy33=>.region fun e h=>?_))))))) h
 simp only [seval,EMH,fld_36_0,sz_33,und_33,sz_27,ag_27]
 refine SpecS.by (r45_out_spec hy33) (by simp only [seval,FMH]) ?_
 simp only [seval,EMH]
 refine mU e (.cond rfl (fun hb35=>?_) (fun hb35=>?_)) h
 refine .sR fun e h=>?_
 simp only [seval,EMH]
 refine mU e (.ret fun e h=>?_) h
 cases h
 simp only [seval,FMH,Tryz.results37]
 refine .skip (Mir.toB (Mir.toK (.region fun e h=>?_)))
 simp only [seval,EMH,(nr rfl : IntKind.i64.wrap 1 = 1)]
 refine Mir.useN (e := e) ?_ h
 refine .seqK (.sR fun e h=>?_)
 simp only [seval,EMH]
 refine mU e (.condT rfl (.skip (Mir.toK (.seqK (.block (.seqK (.bind fun y2 hy38=>.region fun e h=>?_))))))) h
 simp only [seval,EMH,fld_36_0,sz_33,und_33,sz_27,ag_27]
 refine SpecS.by (r45_out_spec hy38) (by simp only [seval,FMH]) ?_
 simp only [seval,EMH]
 refine mU e (.cond rfl (fun hb40=>?_) (fun hb40=>?_)) h
 refine .sR fun e h=>?_
 simp only [seval,EMH]
 refine mU e (.ret fun e h=>?_) h
 cases h
 simp only [seval,FMH,Tryz.results37]
 refine .skip (Mir.toB (Mir.toK (.region fun e h=>?_)))
 simp only [seval,EMH,(nr rfl : IntKind.i64.wrap 2 = 2)]
 refine Mir.useN (e := e) ?_ h
 refine .seqK (.sR fun e h=>?_)
 simp only [seval,EMH]
 refine mU e (.condT rfl (.skip (Mir.toK (.seqK (.block (.seqK (.bind fun y3 hy43=>.region fun e h=>?_))))))) h
 simp only [seval,EMH,fld_36_0,sz_33,und_33,sz_27,ag_27]
 refine SpecS.by (r45_out_spec hy43) (by simp only [seval,FMH]) ?_
 simp only [seval,EMH]
 refine mU e (.cond rfl (fun hb45=>?_) (fun hb45=>?_)) h
 refine .sR fun e h=>?_
 simp only [seval,EMH]
 refine mU e (.ret fun e h=>?_) h
 cases h
 simp only [seval,FMH,Tryz.results37]
 refine .skip (Mir.toB (Mir.toK (.region fun e h=>?_)))
 simp only [seval,EMH,(nr rfl : IntKind.i64.wrap 3 = 3)]
 refine Mir.useN (e := e) ?_ h
 refine .seqK (.sR fun e h=>?_)
 simp only [seval,EMH]
 refine mU e (.condT rfl (.skip (Mir.toK (.seqK (.block (.seqK (.bind fun y4 hy48=>.region fun e h=>?_))))))) h
 simp only [seval,EMH,fld_36_0,sz_33,und_33,sz_27,ag_27]
 refine SpecS.by (r45_out_spec hy48) (by simp only [seval,FMH]) ?_
 simp only [seval,EMH]
 refine mU e (.cond rfl (fun hb50=>?_) (fun hb50=>?_)) h
 refine .sR fun e h=>?_
 simp only [seval,EMH]
 refine mU e (.ret fun e h=>?_) h
 cases h
 simp only [seval,FMH,Tryz.results37]
 refine .skip (Mir.toB (Mir.toK (.region fun e h=>?_)))
 simp only [seval,EMH,(nr rfl : IntKind.i64.wrap 4 = 4)]
 refine Mir.useN (e := e) ?_ h
 refine .seqK (.sR fun e h=>?_)
 simp only [seval,EMH]
 refine mU e (.condT rfl (.skip (Mir.toK (.seqK (.block (.seqK (.bind fun y5 hy53=>.region fun e h=>?_))))))) h
 simp only [seval,EMH,fld_36_0,sz_33,und_33,sz_27,ag_27]
 refine SpecS.by (r45_out_spec hy53) (by simp only [seval,FMH]) ?_
 simp only [seval,EMH]
 refine mU e (.cond rfl (fun hb55=>?_) (fun hb55=>?_)) h
 refine .sR fun e h=>?_
 simp only [seval,EMH]
 refine mU e (.ret fun e h=>?_) h
 cases h
 simp only [seval,FMH,Tryz.results37]
 refine .skip (Mir.toB (Mir.toK (.region fun e h=>?_)))
 simp only [seval,EMH,(nr rfl : IntKind.i64.wrap 5 = 5)]
 refine Mir.useN (e := e) ?_ h
 refine .seqK (.sR fun e h=>?_)
 simp only [seval,EMH]
 refine mU e (.condT rfl (.skip (Mir.toK (.seqK (.block (.seqK (.bind fun y6 hy58=>.region fun e h=>?_))))))) h
 simp only [seval,EMH,fld_36_0,sz_33,und_33,sz_27,ag_27]
 refine SpecS.by (r45_out_spec hy58) (by simp only [seval,FMH]) ?_
 simp only [seval,EMH]
 refine mU e (.cond rfl (fun hb60=>?_) (fun hb60=>?_)) h
 refine .sR fun e h=>?_
 simp only [seval,EMH]
 refine mU e (.ret fun e h=>?_) h
 cases h
 simp only [seval,FMH,Tryz.results37]
 refine .skip (Mir.toB (Mir.toK (.region fun e h=>?_)))
 simp only [seval,EMH,(nr rfl : IntKind.i64.wrap 6 = 6)]
 refine Mir.useN (e := e) ?_ h
 refine .seqK (.sR fun e h=>?_)
 simp only [seval,EMH]
 refine mU e (.condF rfl (.exit fun e h=>?_)) h
 cases h
 simp only [seval,FMH,Tryz.results37]
 intro v1
 refine Mir.toK (.seqK (.sR fun e h=>?_))
 simp only [seval,EMH]
 refine mU e (Mir.join (fun v4 : Unit=>(us 48)) (fun v4=>⟨[[.d (.int .i64 a0.Work.e0.X),.d (.int .i64 a0.Work.e0.Y),.d (.int .i64 a0.Work.e0.Z),.d (.int .i64 a0.Work.e1.X),.d (.int .i64 a0.Work.e1.Y),.d (.int .i64 a0.Work.e1.Z),.d (.int .i64 a0.Work.e2.X),.d (.int .i64 a0.Work.e2.Y),.d (.int .i64 a0.Work.e2.Z),.d (.int .i64 a0.Work.e3.X),.d (.int .i64 a0.Work.e3.Y),.d (.int .i64 a0.Work.e3.Z),.d (.int .i64 a0.Work.e4.X),.d (.int .i64 a0.Work.e4.Y),.d (.int .i64 a0.Work.e4.Z),.d (.int .i64 a0.Work.e5.X),.d (.int .i64 a0.Work.e5.Y),.d (.int .i64 a0.Work.e5.Z),.d (.list (List.map encR45Length a0.Lengths))]],[]⟩) (fun _=>rfl) ?_ ?_) h
 refine .block (.guard fun q1=>Mir.range (fun (i1 : Nat) (v2 : Unit)=>([U,.ptr 0 0,U,U,.d (.int .i64 (i1 : Int))] ++ us 43)) (fun i1 v2=>⟨[[.d (.int .i64 a0.Work.e0.X),.d (.int .i64 a0.Work.e0.Y),.d (.int .i64 a0.Work.e0.Z),.d (.int .i64 a0.Work.e1.X),.d (.int .i64 a0.Work.e1.Y),.d (.int .i64 a0.Work.e1.Z),.d (.int .i64 a0.Work.e2.X),.d (.int .i64 a0.Work.e2.Y),.d (.int .i64 a0.Work.e2.Z),.d (.int .i64 a0.Work.e3.X),.d (.int .i64 a0.Work.e3.Y),.d (.int .i64 a0.Work.e3.Z),.d (.int .i64 a0.Work.e4.X),.d (.int .i64 a0.Work.e4.Y),.d (.int .i64 a0.Work.e4.Z),.d (.int .i64 a0.Work.e5.X),.d (.int .i64 a0.Work.e5.Y),.d (.int .i64 a0.Work.e5.Z),.d (.list (List.map encR45Length a0.Lengths))]],[]⟩) q1 (fun _ _=>rfl) (by simp only [seval,FMH,zNI]) (by simp only [seval,FMH,zNI]) ?_ ?_)
 intro i1 e1 v2 q2
 refine .seqK (.sR fun e h=>?_)
 simp only [seval,EMH,fld_36_1,sz_34,ag_34,und_34,q2]
 refine mU e (.condT rfl (.skip (Mir.toK (.seqK (.block (.seqK (Mir.joinO (fun v3 : Bool=>[U,.ptr 0 0,U,U,.d (.int .i64 (i1 : Int)),U,U,U,U,U,U,U,U,U,U,U,U,U,U,U,U,U,U,U,U,U,U,U,U,U,U,U,U,U,U,U,U,U,U,U,U,U,U,U,U,U,U,.d (.bool v3)]) (fun v3=>⟨[[.d (.int .i64 a0.Work.e0.X),.d (.int .i64 a0.Work.e0.Y),.d (.int .i64 a0.Work.e0.Z),.d (.int .i64 a0.Work.e1.X),.d (.int .i64 a0.Work.e1.Y),.d (.int .i64 a0.Work.e1.Z),.d (.int .i64 a0.Work.e2.X),.d (.int .i64 a0.Work.e2.Y),.d (.int .i64 a0.Work.e2.Z),.d (.int .i64 a0.Work.e3.X),.d (.int .i64 a0.Work.e3.Y),.d (.int .i64 a0.Work.e3.Z),.d (.int .i64 a0.Work.e4.X),.d (.int .i64 a0.Work.e4.Y),.d (.int .i64 a0.Work.e4.Z),.d (.int .i64 a0.Work.e5.X),.d (.int .i64 a0.Work.e5.Y),.d (.int .i64 a0.Work.e5.Z),.d (.list (List.map encR45Length a0.Lengths))]],[]⟩) (fun _=>rfl) ?_ ?_))))))) h
 refine .bind fun y7 h1=>.ite (fun h2=>?_) (fun h2=>?_)
 refine .ite (fun h3=>?_) (fun h3=>?_)
 refine .bind fun e2 q3=>?_
 replace q3 := gt_ok q3
 refine .regionD [] (by kernel_rfl) fun e h=>?_
 simp only [seval,EMH,SB,fld_36_1,sz_34,ag_34,und_34,sz_94,q2,Int.toNat_natCast,ag_94,h2,h3]
 refine Spec.by (r45_entry_spec h1) (by simp only [seval,FMH,h2,h3]) ?_
 simp only [seval,EMH,SB,fld_36_1,sz_34,ag_34,und_34,sz_94,q2,Int.toNat_natCast,fld_94_0,sz_2,ag_2,q3,h2,h3]
 cases h
 simp only [seval,FMH,h2,h3]
 refine .regionD [] (by kernel_rfl) fun e h=>?_
 simp only [seval,EMH,SB,fld_36_1,sz_34,ag_34,und_34,sz_94,q2,Int.toNat_natCast,ag_94,h2,h3]
 refine Spec.by (r45_entry_spec h1) (by simp only [seval,FMH,h2,h3]) ?_
 simp only [seval,EMH,SB,h2,h3]
 cases h
 simp only [seval,FMH,h2,h3]
 refine .regionD [] (by kernel_rfl) fun e h=>?_
 simp only [seval,EMH,SB,fld_36_1,sz_34,ag_34,und_34,sz_94,q2,Int.toNat_natCast,ag_94,h2]
 refine Spec.by (r45_entry_spec h1) (by simp only [seval,FMH,h2]) ?_
 simp only [seval,EMH,SB,h2]
 cases h
 simp only [seval,FMH,h2]
 intro v3
 refine Mir.toK (.cond rfl (fun h4=>?_) (fun h4=>?_))
 refine .sR fun e h=>?_
 simp only [seval,EMH]
 refine mU e (.ret fun e h=>?_) h
 cases h
 simp only [seval,FMH,Tryz.results37]
 refine .skip (Mir.toB (Mir.toK (.region fun e h=>?_)))
 simp only [seval,EMH]
 cases h
 simp only [seval,FMH,Tryz.results37,q2]
 intro v2 q4
 refine .seqK (.sR fun e h=>?_)
 simp only [seval,EMH,fld_36_1,sz_34,ag_34,und_34,q4]
 refine mU e (.condF rfl (.exit fun e h=>?_)) h
 cases h
 simp only [seval,FMH,Tryz.results37]
 intro v4
 refine Mir.toK (.sR fun e h=>?_)
 simp only [seval,EMH]
 refine mU e (.ret fun e h=>?_) h
 cases h
 simp only [seval,FMH,Tryz.results37]
def r41_Codes (a0 : ApiBlock) (a1 : Int) : Option (List Int) := bindO (guardO (okIdx a0.Words) ( rangeX (fun (i1 : Nat) (e1 : ApiWord) (v1 : (List Int))=>bindO (if (e1.Letter == a1) = true then guardO (okLen (v1.length + 1)) ( some (v1 ++ [e1.Value])) else some v1) fun (v2 : (List Int))=>some (.go v2)) (fun (v1 : (List Int))=>some v1) a0.Words 0 [])) fun (v3 : (List Int))=>some v3
theorem r41_Codes_spec {a0 : ApiBlock} {a1 : Int} {y : (List Int)} (h : r41_Codes a0 a1 = some y) : Spec gP 124 [.agg [.d (.bool a0.Skip),.d (.list (List.map encApiWord a0.Words)),.d (.str a0.Comment)],.d (.int .u8 a1)] (.d (.list (List.map (eInt .i64) y))) := by
 refine spec_mir Tryz.func124 rfl (by kernel_rfl) (by kernel_rfl) (fun y : (List Int)=>.d (.list (List.map (eInt .i64) y))) ?_ h
 unfold r41_Codes
 simp only [List.replicate,List.length,nS,nA,Tryz.ntmps124,SV]
 refine .sR fun e h=>?_
 simp only [seval,EMH,eInt]
 refine mU e (.sR fun e h=>?_) h
 simp only [seval,EMH,eInt]
 refine mU e (.seqK (.sR fun e h=>?_)) h
 simp only [seval,EMH,eInt]
 refine mU e (.gh [.slot 5 2] rfl (Mir.joinO (fun v3 : (List Int)=>([U,U,U,U,U,.own 0 (List.map (eInt .i64) v3)] ++ us 26)) (fun v3=>⟨[[.d (.bool a0.Skip),.d (.list (List.map encApiWord a0.Words)),.d (.str a0.Comment)]],[(2,v3.length)]⟩) (fun _=>rfl) ?_ ?_)) h
 refine .block (.guard fun qg91=>Mir.range (fun (i1 : Nat) (v1 : (List Int))=>([U,.d (.int .u8 a1),.ptr 0 0,U,U,.own 0 (List.map (eInt .i64) v1),.d (.int .i64 (i1 : Int))] ++ us 25)) (fun i1 v1=>⟨[[.d (.bool a0.Skip),.d (.list (List.map encApiWord a0.Words)),.d (.str a0.Comment)]],[(2,v1.length)]⟩) qg91 (fun _ _=>rfl) (by simp only [seval,FMH,eInt,zNI]) (by simp only [seval,FMH,eInt,zNI]) ?_ ?_)
 intro i1 e1 v1 qr89
 refine .seqK (.sR fun e h=>?_)
 simp only [seval,EMH,fld_32_1,sz_30,ag_30,und_30,qr89,eInt]
 refine mU e (.condT rfl (.skip (Mir.toK (.seqK (Mir.joinO (fun v2 : (List Int)=>([U,.d (.int .u8 a1),.ptr 0 0,U,U,.own 0 (List.map (eInt .i64) v2),.d (.int .i64 (i1 : Int))] ++ us 25)) (fun v2=>⟨[[.d (.bool a0.Skip),.d (.list (List.map encApiWord a0.Words)),.d (.str a0.Comment)]],[(2,v2.length)]⟩) (fun _=>rfl) ?_ ?_))))) h
 refine .block (.sR fun e h=>?_)
 simp only [seval,EMH,fld_32_1,sz_30,ag_30,und_30,sz_117,qr89,Int.toNat_natCast,fld_117_0,sz_5,ag_5,eInt]
 refine mU e (.cond rfl (fun hb94=>?_) (fun hb94=>?_)) h
 refine .guard fun q95=>.region fun e h=>?_
 simp only [seval,EMH,fld_32_1,sz_30,ag_30,und_30,sz_117,qr89,Int.toNat_natCast,fld_117_1,sz_2,ag_2,und_75,zero_2,(oL 1),app_75,al_eInt,q95,eInt]
 cases h
 simp only [seval,FMH,eInt,Tryz.results124]
 refine .skip fun e h=>?_
 cases h
 simp only [seval,FMH,eInt,Tryz.results124]
 intro v2
 refine Mir.toK (.region fun e h=>?_)
 simp only [seval,EMH,eInt]
 cases h
 simp only [seval,FMH,eInt,Tryz.results124,qr89]
 intro v1 qd90
 refine .seqK (.sR fun e h=>?_)
 simp only [seval,EMH,fld_32_1,sz_30,ag_30,und_30,qd90,eInt]
 refine mU e (.condF rfl (.exit fun e h=>?_)) h
 cases h
 simp only [seval,FMH,eInt,Tryz.results124]
 intro v3
 refine Mir.toK (.sR fun e h=>?_)
 simp only [seval,EMH,eInt]
 refine mU e (.ret fun e h=>?_) h
 cases h
 simp only [seval,FMH,eInt,Tryz.results124]
def r41_Find (a0 : ApiBlock) (a1 : Int) : Option (Int × Bool) := bindO (r41_Codes a0 a1) fun (y1 : (List Int))=>if ((y1.length : Int) == 0) = true then some (0,false) else bindO (gt y1 0) fun (e1 : Int)=>some (e1,true)
theorem r41_Find_spec {a0 : ApiBlock} {a1 : Int} {y : Int × Bool} (h : r41_Find a0 a1 = some y) : Spec gP 97 [.agg [.d (.bool a0.Skip),.d (.list (List.map encApiWord a0.Words)),.d (.str a0.Comment)],.d (.int .u8 a1)] (.tuple [.d (.int .i64 y.1),.d (.bool y.2)]) := by
 refine spec_mir Tryz.func97 rfl (by kernel_rfl) (by kernel_rfl) (fun y : Int × Bool=>.tuple [.d (.int .i64 y.1),.d (.bool y.2)]) ?_ h
 unfold r41_Find
 simp only [List.replicate,List.length,nS,nA,Tryz.ntmps97,SV]
 refine .sR fun e h=>?_
 simp only [seval,EMH,eInt]
 refine mU e (.seqK (.bind fun y1 hy1=>.region fun e h=>?_)) h
 simp only [seval,EMH,ag_32,sz_32,eInt]
 refine SpecS.by (r41_Codes_spec hy1) (by simp only [seval,FMH,eInt]) ?_
 simp only [seval,EMH,eInt]
 refine mU e (.seqK (.sR fun e h=>?_)) h
 simp only [seval,EMH,und_75,eInt]
 refine mU e (.cond rfl (fun hb3=>?_) (fun hb3=>?_)) h
 refine .sR fun e h=>?_
 simp only [seval,EMH]
 refine mU e (.ret fun e h=>?_) h
 cases h
 simp only [seval,FMH,Tryz.results97]
 refine .skip (Mir.toK (.seqK (.bind fun e1 q4=>?_)))
 replace q4 := gt_ok q4
 simp only [Int.reduceToNat,Int.reduceLT,Nat.sub_zero,dp0] at q4
 refine .region fun e h=>?_
 simp only [seval,EMH,und_75,sz_2,q4,ag_2,eInt]
 refine mU e (.ret fun e h=>?_) h
 cases h
 simp only [seval,FMH,eInt,Tryz.results97]
end Go.Proofs.YtopjpenbieojmaaGreatDoor
