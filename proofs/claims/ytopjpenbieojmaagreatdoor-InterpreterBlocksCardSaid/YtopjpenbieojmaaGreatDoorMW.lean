import Derived.Test.YtopjpenbieojmaaGreatDoorGx
import Derived.Test.YtopjpenbieojmaaGreatDoorTy
import Derived.Test.YtopjpenbieojmaaGreatDoorMB
import Derived.Test.YtopjpenbieojmaaGreatDoorMH
namespace Go.Proofs.YtopjpenbieojmaaGreatDoor
open Go.RowKit
open Nat renaming reduceAdd → nA,reduceSub → nS,reduceMul → nM,reduceEqDiff → nE,reduceLeDiff → nL,reduceLT → nT,reduceBEq → nB
open Int renaming reduceLT → iT,reduceToNat → iN,reduceEq → iE
set_option linter.unusedVariables false
set_option linter.unusedSimpArgs false
set_option maxRecDepth 100000
set_option maxHeartbeats 8000000
structure R42State where
 Motion : Int
 Distance : Int
 Work : Int
 Length : Int
 Return : Int
 Feed : Int
 Tool : Int
 Offset : Int
 deriving DecidableEq
def encR42State (x : R42State) : List D := [.int .i64 x.Motion,.int .i64 x.Distance,.int .i64 x.Work,.int .i64 x.Length,.int .i64 x.Return,.int .i64 x.Feed,.int .i64 x.Tool,.int .i64 x.Offset]
structure R44Cycle where
 Code : Int
 R : Int
 Z : Int
 Q : Int
 Rate : Int
 Initial : Int
 High : Bool
 deriving DecidableEq
def encR44Cycle (x : R44Cycle) : List D := [.int .i64 x.Code,.int .i64 x.R,.int .i64 x.Z,.int .i64 x.Q,.int .i64 x.Rate,.int .i64 x.Initial,.bool x.High]
structure R47Machine where
 State : R42State
 Cycle : R44Cycle
 At : ApiPos
 deriving DecidableEq
def encR47Machine (x : R47Machine) : List D := [.int .i64 x.State.Motion,.int .i64 x.State.Distance,.int .i64 x.State.Work,.int .i64 x.State.Length,.int .i64 x.State.Return,.int .i64 x.State.Feed,.int .i64 x.State.Tool,.int .i64 x.State.Offset,.int .i64 x.Cycle.Code,.int .i64 x.Cycle.R,.int .i64 x.Cycle.Z,.int .i64 x.Cycle.Q,.int .i64 x.Cycle.Rate,.int .i64 x.Cycle.Initial,.bool x.Cycle.High,.int .i64 x.At.X,.int .i64 x.At.Y,.int .i64 x.At.Z]
structure R44Path where
 At : ApiPos
 Moves : (List ApiMove)
 deriving DecidableEq
def encR44Path (x : R44Path) : List D := [.int .i64 x.At.X,.int .i64 x.At.Y,.int .i64 x.At.Z,.list (List.map encApiMove x.Moves)]
structure R47Alarm where
 Block : Int
 Code : Int
 deriving DecidableEq
def encR47Alarm (x : R47Alarm) : List D := [.int .i64 x.Block,.int .i64 x.Code]
theorem ENMW : type_of% (And.intro @encR42State.eq_1 <| And.intro @encR44Cycle.eq_1 <| And.intro @encR47Machine.eq_1 <| And.intro @encR44Path.eq_1 <| @encR47Alarm.eq_1) := And.intro @encR42State.eq_1 <| And.intro @encR44Cycle.eq_1 <| And.intro @encR47Machine.eq_1 <| And.intro @encR44Path.eq_1 <| @encR47Alarm.eq_1
theorem EMW : type_of% (And.intro @SE <| And.intro @ENMW <| @ENMB) := And.intro @SE <| And.intro @ENMW <| @ENMB
theorem FMW : type_of% (And.intro @SF <| And.intro @ENMW <| @ENMB) := And.intro @SF <| And.intro @ENMW <| @ENMB
def r41_printable (a0 : Int) : Option Bool := some ((decide (a0 ≥ 32)) && ((decide (a0 ≤ 126)) && ((a0 != 40) && (a0 != 41))))
theorem r41_printable_spec {a0 : Int} {y : Bool} (h : r41_printable a0 = some y) : Spec gP 95 [.d (.int .u8 a0)] (.d (.bool y)) := by
 refine spec_mir Tryz.func95 rfl (by kernel_rfl) (by kernel_rfl) (fun y : Bool=>.d (.bool y)) ?_ h
 unfold r41_printable
 simp only [List.replicate,List.length,nS,nA,Tryz.ntmps95,SV]
 refine .sR fun e h=>?_
 simp only [seval,EMW]
 refine mU e (.seqK (.joinV ([U,U,.d (.bool ((decide (a0 ≥ 32)) && ((decide (a0 ≤ 126)) && ((a0 != 40) && (a0 != 41)))))] ++ us 14) ⟨[],[]⟩ rfl ?_ ?_)) h
 refine SWs.region ?_
 rcases Bool.eq_false_or_eq_true (decide (a0 ≥ 32)) with hb1 | hb1
 rcases Bool.eq_false_or_eq_true (decide (a0 ≤ 126)) with hb2 | hb2
 rcases Bool.eq_false_or_eq_true (a0 != 40) with hb3 | hb3
 simp only [seval,EMW,SL,PB,hb1,hb2,hb3]
 simp only [seval,EMW,SL,PB,hb1,hb2,hb3]
 simp only [seval,EMW,SL,PB,hb1,hb2]
 simp only [seval,EMW,SL,PB,hb1]
 refine Mir.toK (.ret fun e h=>?_)
 cases h
 simp only [seval,FMW,Tryz.results95]
def r41_Valid (a0 : ApiBlock) : Option Int := if ((decide ((a0.Words.length : Int) > 16)) || (decide ((a0.Comment.length : Int) > 100))) = true then some 1 else bindX (guardO (okIdx a0.Words) ( rangeX (fun (i1 : Nat) (e1 : ApiWord) (v1 : Unit)=>if ((decide (e1.Letter < 65)) || ((decide (e1.Letter > 90)) || ((decide (e1.Value > 1000000000000)) || (decide (e1.Value < (-1000000000000)))))) = true then some (.ret (.ret 1)) else some (.go ())) (fun (v1 : Unit)=>some (.go ())) a0.Words 0 ())) fun (v2 : Unit)=>bindX (guardO (okIdx a0.Comment) ( rangeX (fun (i2 : Nat) (c1 : UInt8) (v3 : Unit)=>bindO (r41_printable (c1.toNat : Int)) fun (y1 : Bool)=>if (!y1) = true then some (.ret (.ret 1)) else some (.go ())) (fun (v3 : Unit)=>some (.go ())) a0.Comment 0 ())) fun (v4 : Unit)=>some 0
theorem r41_Valid_spec {a0 : ApiBlock} {y : Int} (h : r41_Valid a0 = some y) : Spec gP 72 [.agg [.d (.bool a0.Skip),.d (.list (List.map encApiWord a0.Words)),.d (.str a0.Comment)]] (.d (.int .i64 y)) := by
 refine spec_mir Tryz.func72 rfl (by kernel_rfl) (by kernel_rfl) (fun y : Int=>.d (.int .i64 y)) ?_ h
 unfold r41_Valid
 simp only [List.replicate,List.length,nS,nA,Tryz.ntmps72,SV]
 refine .sR fun e h=>?_
 simp only [seval,EMW]
 refine mU e (.seqK (.seqK (.joinV ([U,.ptr 0 0,U,U,U,U,U,U,U,U,U,U,U,U,U,.d (.bool ((decide ((a0.Words.length : Int) > 16)) || (decide ((a0.Comment.length : Int) > 100))))] ++ us 43) ⟨[[.d (.bool a0.Skip),.d (.list (List.map encApiWord a0.Words)),.d (.str a0.Comment)]],[]⟩ rfl ?_ ?_))) h
 refine SWs.region ?_
 rcases Bool.eq_false_or_eq_true (decide ((a0.Words.length : Int) > 16)) with hb1 | hb1
 simp only [seval,EMW,SL,PB,fld_32_1,sz_30,ag_30,und_30,hb1]
 simp only [seval,EMW,SL,PB,fld_32_1,sz_30,ag_30,und_30,fld_32_2,sz_9,ag_9,und_9,hb1]
 refine Mir.toK (.cond rfl (fun hb3=>?_) (fun hb3=>?_))
 refine .sR fun e h=>?_
 simp only [seval,EMW]
 refine mU e (.ret fun e h=>?_) h
 cases h
 simp only [seval,FMW,Tryz.results72]
 refine .skip (Mir.toK (.seqK (.sR fun e h=>?_)))
 simp only [seval,EMW]
 refine mU e (Mir.join (fun v2 : Unit=>([U,.ptr 0 0] ++ us 57)) (fun v2=>⟨[[.d (.bool a0.Skip),.d (.list (List.map encApiWord a0.Words)),.d (.str a0.Comment)]],[]⟩) (fun _=>rfl) ?_ ?_) h
 refine .block (.guard fun qg96=>Mir.range (fun (i1 : Nat) (v1 : Unit)=>([U,.ptr 0 0,U,.d (.int .i64 (i1 : Int))] ++ us 55)) (fun i1 v1=>⟨[[.d (.bool a0.Skip),.d (.list (List.map encApiWord a0.Words)),.d (.str a0.Comment)]],[]⟩) qg96 (fun _ _=>rfl) (by simp only [seval,FMW,zNI]) (by simp only [seval,FMW,zNI]) ?_ ?_)
 intro i1 e1 v1 qr94
 refine .seqK (.sR fun e h=>?_)
 simp only [seval,EMW,fld_32_1,sz_30,ag_30,und_30,qr94]
 refine mU e (.condT rfl (.skip (Mir.toK (.seqK (.block (.sR fun e h=>?_)))))) h
 simp only [seval,EMW,fld_32_1,sz_30,ag_30,und_30,sz_117,qr94,Int.toNat_natCast,ag_117,zero_117]
 refine mU e (.seqK (.joinV ([U,.ptr 0 0,U,.d (.int .i64 (i1 : Int)),U,U,U,U,U,U,U,U,U,U,U,U,U,U,U,U,U,U,U,U,U,U,U,U,U,U,U,U,U,U,U,U,U,U,U,U,U,U,U,U,U,.d (.bool ((decide (e1.Letter < 65)) || ((decide (e1.Letter > 90)) || ((decide (e1.Value > 1000000000000)) || (decide (e1.Value < (-1000000000000)))))))] ++ us 13) ⟨[[.d (.bool a0.Skip),.d (.list (List.map encApiWord a0.Words)),.d (.str a0.Comment)],[.d (.int .u8 e1.Letter),.d (.int .i64 e1.Value)]],[]⟩ rfl ?_ ?_)) h
 refine SWs.region ?_
 rcases Bool.eq_false_or_eq_true (decide (e1.Letter < 65)) with h1 | h1
 simp only [seval,EMW,SL,PB,fld_117_0,sz_5,ag_5,h1]
 rcases Bool.eq_false_or_eq_true (decide (e1.Letter > 90)) with h2 | h2
 simp only [seval,EMW,SL,PB,fld_117_0,sz_5,ag_5,h1,h2]
 rcases Bool.eq_false_or_eq_true (decide (e1.Value > 1000000000000)) with h3 | h3
 simp only [seval,EMW,SL,PB,fld_117_0,sz_5,ag_5,fld_117_1,sz_2,ag_2,h1,h2,h3]
 simp only [seval,EMW,SL,PB,fld_117_0,sz_5,ag_5,fld_117_1,sz_2,ag_2,h1,h2,h3]
 refine Mir.toK (.cond rfl (fun h4=>?_) (fun h4=>?_))
 refine .sR fun e h=>?_
 simp only [seval,EMW]
 refine mU e (.ret fun e h=>?_) h
 cases h
 simp only [seval,FMW,Tryz.results72]
 refine .skip (Mir.toB (Mir.toK (.region fun e h=>?_)))
 simp only [seval,EMW]
 cases h
 simp only [seval,FMW,Tryz.results72,qr94]
 intro v1 qd95
 refine .seqK (.sR fun e h=>?_)
 simp only [seval,EMW,fld_32_1,sz_30,ag_30,und_30,qd95]
 refine mU e (.condF rfl (.exit fun e h=>?_)) h
 cases h
 simp only [seval,FMW,Tryz.results72]
 intro v2
 refine Mir.toK (.seqK (.sR fun e h=>?_))
 simp only [seval,EMW]
 refine mU e (Mir.join (fun v4 : Unit=>(us 59)) (fun v4=>⟨[[.d (.bool a0.Skip),.d (.list (List.map encApiWord a0.Words)),.d (.str a0.Comment)]],[]⟩) (fun _=>rfl) ?_ ?_) h
 refine .block (.guard fun q1=>Mir.range (fun (i2 : Nat) (v3 : Unit)=>([U,.ptr 0 0,U,U,U,.d (.int .i64 (i2 : Int))] ++ us 53)) (fun i2 v3=>⟨[[.d (.bool a0.Skip),.d (.list (List.map encApiWord a0.Words)),.d (.str a0.Comment)]],[]⟩) q1 (fun _ _=>rfl) (by simp only [seval,FMW,zNI]) (by simp only [seval,FMW,zNI]) ?_ ?_)
 intro i2 c1 v3 q2
 refine .seqK (.sR fun e h=>?_)
 simp only [seval,EMW,fld_32_2,sz_9,ag_9,und_9,q2]
 refine mU e (.condT rfl (.skip (Mir.toK (.seqK (.block (.seqK (.bind fun y1 h5=>.region fun e h=>?_))))))) h
 simp only [seval,EMW,fld_32_2,sz_9,ag_9,und_9,Int.toNat_natCast,q2]
 refine SpecS.by (r41_printable_spec h5) (by simp only [seval,FMW]) ?_
 simp only [seval,EMW]
 refine mU e (.cond rfl (fun h6=>?_) (fun h6=>?_)) h
 refine .sR fun e h=>?_
 simp only [seval,EMW]
 refine mU e (.ret fun e h=>?_) h
 cases h
 simp only [seval,FMW,Tryz.results72]
 refine .skip (Mir.toB (Mir.toK (.region fun e h=>?_)))
 simp only [seval,EMW]
 cases h
 simp only [seval,FMW,Tryz.results72,q2]
 intro v3 q3
 refine .seqK (.sR fun e h=>?_)
 simp only [seval,EMW,fld_32_2,sz_9,ag_9,und_9,q3]
 refine mU e (.condF rfl (.exit fun e h=>?_)) h
 cases h
 simp only [seval,FMW,Tryz.results72]
 intro v4
 refine Mir.toK (.sR fun e h=>?_)
 simp only [seval,EMW]
 refine mU e (.ret fun e h=>?_) h
 cases h
 simp only [seval,FMW,Tryz.results72]
def r42_codes (a0 : Int) : Option (List Int) := if (a0 == 1) = true then some [0,1,2,3,80,81,82,83] else if (a0 == 2) = true then some [90,91] else if (a0 == 3) = true then some [54,55,56,57,58,59] else if (a0 == 4) = true then some [43,49] else some [98,99]
theorem r42_codes_spec {a0 : Int} {y : (List Int)} (h : r42_codes a0 = some y) : Spec gP 55 [.d (.int .i64 a0)] (.d (.list (List.map (eInt .i64) y))) := by
 refine spec_mir Tryz.func55 rfl (by kernel_rfl) (by kernel_rfl) (fun y : (List Int)=>.d (.list (List.map (eInt .i64) y))) ?_ h
 unfold r42_codes
 simp only [List.replicate,List.length,nS,nA,Tryz.ntmps55,SV]
 refine .sR fun e h=>?_
 simp only [seval,EMW,eInt]
 refine mU e (.seqK (.sR fun e h=>?_)) h
 simp only [seval,EMW,eInt]
 refine mU e (.block (.sR fun e h=>?_)) h
 simp only [seval,EMW,eInt]
 refine mU e (.cond rfl (fun hb9=>?_) (fun hb9=>?_)) h
 refine .sR fun e h=>?_
 simp only [seval,EMW,und_75,sz_2,zero_2,(oL 8),eInt]
 refine mU e (.ret fun e h=>?_) h
 cases h
 simp only [seval,FMW,eInt,Tryz.results55]
 refine .sR fun e h=>?_
 simp only [seval,EMW,eInt]
 refine mU e (.cond rfl (fun hb13=>?_) (fun hb13=>?_)) h
 refine .sR fun e h=>?_
 simp only [seval,EMW,und_75,sz_2,zero_2,(oL 2),eInt]
 refine mU e (.ret fun e h=>?_) h
 cases h
 simp only [seval,FMW,eInt,Tryz.results55]
 refine .sR fun e h=>?_
 simp only [seval,EMW,eInt]
 refine mU e (.cond rfl (fun hb16=>?_) (fun hb16=>?_)) h
 refine .sR fun e h=>?_
 simp only [seval,EMW,und_75,sz_2,zero_2,(oL 6),eInt]
 refine mU e (.ret fun e h=>?_) h
 cases h
 simp only [seval,FMW,eInt,Tryz.results55]
 refine .sR fun e h=>?_
 simp only [seval,EMW,eInt]
 refine mU e (.cond rfl (fun hb18=>?_) (fun hb18=>?_)) h
 refine .sR fun e h=>?_
 simp only [seval,EMW,und_75,sz_2,zero_2,(oL 2),eInt]
 refine mU e (.ret fun e h=>?_) h
 cases h
 simp only [seval,FMW,eInt,Tryz.results55]
 refine .skip (Mir.toB (Mir.toK (.sR fun e h=>?_)))
 simp only [seval,EMW,und_75,sz_2,zero_2,(oL 2),eInt]
 refine mU e (.ret fun e h=>?_) h
 cases h
 simp only [seval,FMW,eInt,Tryz.results55]
def r42_Group (a0 : Int) : Option Int := bindX (bindX (bindO (r42_codes 1) fun (y1 : (List Int))=>guardO (okIdx y1) ( rangeX (fun (i1 : Nat) (e1 : Int) (v1 : Unit)=>if (a0 == (IntKind.i64.wrap (1000 * e1))) = true then some (.ret (.ret (.ret 1))) else some (.go ())) (fun (v1 : Unit)=>some (.go ())) y1 0 ())) fun (v2 : Unit)=>bindX (bindO (r42_codes 2) fun (y2 : (List Int))=>guardO (okIdx y2) ( rangeX (fun (i2 : Nat) (e2 : Int) (v3 : Unit)=>if (a0 == (IntKind.i64.wrap (1000 * e2))) = true then some (.ret (.ret (.ret 2))) else some (.go ())) (fun (v3 : Unit)=>some (.go ())) y2 0 ())) fun (v4 : Unit)=>bindX (bindO (r42_codes 3) fun (y3 : (List Int))=>guardO (okIdx y3) ( rangeX (fun (i3 : Nat) (e3 : Int) (v5 : Unit)=>if (a0 == (IntKind.i64.wrap (1000 * e3))) = true then some (.ret (.ret (.ret 3))) else some (.go ())) (fun (v5 : Unit)=>some (.go ())) y3 0 ())) fun (v6 : Unit)=>bindX (bindO (r42_codes 4) fun (y4 : (List Int))=>guardO (okIdx y4) ( rangeX (fun (i4 : Nat) (e4 : Int) (v7 : Unit)=>if (a0 == (IntKind.i64.wrap (1000 * e4))) = true then some (.ret (.ret (.ret 4))) else some (.go ())) (fun (v7 : Unit)=>some (.go ())) y4 0 ())) fun (v8 : Unit)=>bindX (bindO (r42_codes 5) fun (y5 : (List Int))=>guardO (okIdx y5) ( rangeX (fun (i5 : Nat) (e5 : Int) (v9 : Unit)=>if (a0 == (IntKind.i64.wrap (1000 * e5))) = true then some (.ret (.ret (.ret 5))) else some (.go ())) (fun (v9 : Unit)=>some (.go ())) y5 0 ())) fun (v10 : Unit)=>some (.go ())) fun (v11 : Unit)=>some 0
theorem r42_Group_spec {a0 : Int} {y : Int} (h : r42_Group a0 = some y) : Spec gP 23 [.d (.int .i64 a0)] (.d (.int .i64 y)) := by
 refine spec_mir Tryz.func23 rfl (by kernel_rfl) (by kernel_rfl) (fun y : Int=>.d (.int .i64 y)) ?_ h
 unfold r42_Group
 simp only [List.replicate,List.length,nS,nA,Tryz.ntmps23,SV]
 refine .sR fun e h=>?_
 simp only [seval,EMW,eInt]
 refine mU e (.seqK (.sR fun e h=>?_)) h
 simp only [seval,EMW,eInt]
 refine mU e (Mir.join (fun v11 : Unit=>(us 26)) (fun v11=>⟨[],[]⟩) (fun _=>rfl) ?_ ?_) h
 refine .block (.loopR 15 (.seqK (.sR fun e h=>?_)))
 simp only [seval,EMW,(nr rfl : (decide ((1 : Int) ≤ 5)) = true),eInt]
 refine mU e (.condT rfl (.skip (Mir.toK (.seqK (Mir.join (fun v2 : Unit=>([.d (.int .i64 a0),U,U,.d (.int .i64 1)] ++ us 22)) (fun v2=>⟨[],[]⟩) (fun _=>rfl) ?_ ?_))))) h
 refine .block (.seqK (.bind fun y1 h1=>.region fun e h=>?_))
 simp only [seval,EMW,eInt]
 refine SpecS.by (r42_codes_spec h1) (by simp only [seval,FMW,eInt]) ?_
 simp only [seval,EMW,eInt]
 refine mU e (.sR fun e h=>?_) h
 simp only [seval,EMW,eInt]
 refine mU e (.block (.guard fun q1=>Mir.range (fun (i1 : Nat) (v1 : Unit)=>([.d (.int .i64 a0),U,U,.d (.int .i64 1),.d (.list (List.map (eInt .i64) y1)),.d (.int .i64 (i1 : Int))] ++ us 20)) (fun i1 v1=>⟨[],[]⟩) q1 (fun _ _=>rfl) (by simp only [seval,FMW,eInt,zNI]) (by simp only [seval,FMW,eInt,zNI]) ?_ ?_)) h
 intro i1 e1 v1 q2
 refine .seqK (.sR fun e h=>?_)
 simp only [seval,EMW,und_75,q2,eInt]
 refine mU e (.condT rfl (.skip (Mir.toK (.seqK (.block (.sR fun e h=>?_)))))) h
 simp only [seval,EMW,und_75,sz_2,q2,Int.toNat_natCast,ag_2,eInt]
 refine mU e (.cond rfl (fun h2=>?_) (fun h2=>?_)) h
 refine .sR fun e h=>?_
 simp only [seval,EMW,eInt]
 refine mU e (.ret fun e h=>?_) h
 cases h
 simp only [seval,FMW,eInt,Tryz.results23]
 refine .skip (Mir.toB (Mir.toK (.region fun e h=>?_)))
 simp only [seval,EMW,eInt]
 cases h
 simp only [seval,FMW,eInt,Tryz.results23,q2]
 intro v1 q3
 refine .seqK (.sR fun e h=>?_)
 simp only [seval,EMW,und_75,q3,eInt]
 refine mU e (.condF rfl (.exit fun e h=>?_)) h
 cases h
 simp only [seval,FMW,eInt,Tryz.results23]
 intro v2
 refine Mir.toK (.region fun e h=>?_)
 simp only [seval,EMW,(nr rfl : IntKind.i64.wrap 2 = 2),eInt]
 refine Mir.useN (e := e) ?_ h
 refine .seqK (.sR fun e h=>?_)
 simp only [seval,EMW,(nr rfl : (decide ((2 : Int) ≤ 5)) = true),eInt]
 refine mU e (.condT rfl (.skip (Mir.toK (.seqK (Mir.join (fun v4 : Unit=>([.d (.int .i64 a0),U,U,.d (.int .i64 2)] ++ us 22)) (fun v4=>⟨[],[]⟩) (fun _=>rfl) ?_ ?_))))) h
 refine .block (.seqK (.bind fun y2 h3=>.region fun e h=>?_))
 simp only [seval,EMW,eInt]
 refine SpecS.by (r42_codes_spec h3) (by simp only [seval,FMW,eInt]) ?_
 simp only [seval,EMW,eInt]
 refine mU e (.sR fun e h=>?_) h
 simp only [seval,EMW,eInt]
 refine mU e (.block (.guard fun q4=>Mir.range (fun (i2 : Nat) (v3 : Unit)=>([.d (.int .i64 a0),U,U,.d (.int .i64 2),.d (.list (List.map (eInt .i64) y2)),.d (.int .i64 (i2 : Int))] ++ us 20)) (fun i2 v3=>⟨[],[]⟩) q4 (fun _ _=>rfl) (by simp only [seval,FMW,eInt,zNI]) (by simp only [seval,FMW,eInt,zNI]) ?_ ?_)) h
 intro i2 e2 v3 q5
 refine .seqK (.sR fun e h=>?_)
 simp only [seval,EMW,und_75,q5,eInt]
 refine mU e (.condT rfl (.skip (Mir.toK (.seqK (.block (.sR fun e h=>?_)))))) h
 simp only [seval,EMW,und_75,sz_2,q5,Int.toNat_natCast,ag_2,eInt]
 refine mU e (.cond rfl (fun h4=>?_) (fun h4=>?_)) h
 refine .sR fun e h=>?_
 simp only [seval,EMW,eInt]
 refine mU e (.ret fun e h=>?_) h
 cases h
 simp only [seval,FMW,eInt,Tryz.results23]
 refine .skip (Mir.toB (Mir.toK (.region fun e h=>?_)))
 simp only [seval,EMW,eInt]
 cases h
 simp only [seval,FMW,eInt,Tryz.results23,q5]
 intro v3 q6
 refine .seqK (.sR fun e h=>?_)
 simp only [seval,EMW,und_75,q6,eInt]
 refine mU e (.condF rfl (.exit fun e h=>?_)) h
 cases h
 simp only [seval,FMW,eInt,Tryz.results23]
 intro v4
 refine Mir.toK (.region fun e h=>?_)
 simp only [seval,EMW,(nr rfl : IntKind.i64.wrap 3 = 3),eInt]
 refine Mir.useN (e := e) ?_ h
 refine .seqK (.sR fun e h=>?_)
 simp only [seval,EMW,(nr rfl : (decide ((3 : Int) ≤ 5)) = true),eInt]
 refine mU e (.condT rfl (.skip (Mir.toK (.seqK (Mir.join (fun v6 : Unit=>([.d (.int .i64 a0),U,U,.d (.int .i64 3)] ++ us 22)) (fun v6=>⟨[],[]⟩) (fun _=>rfl) ?_ ?_))))) h
 refine .block (.seqK (.bind fun y3 h5=>.region fun e h=>?_))
 simp only [seval,EMW,eInt]
 refine SpecS.by (r42_codes_spec h5) (by simp only [seval,FMW,eInt]) ?_
 simp only [seval,EMW,eInt]
 refine mU e (.sR fun e h=>?_) h
 simp only [seval,EMW,eInt]
 refine mU e (.block (.guard fun q7=>Mir.range (fun (i3 : Nat) (v5 : Unit)=>([.d (.int .i64 a0),U,U,.d (.int .i64 3),.d (.list (List.map (eInt .i64) y3)),.d (.int .i64 (i3 : Int))] ++ us 20)) (fun i3 v5=>⟨[],[]⟩) q7 (fun _ _=>rfl) (by simp only [seval,FMW,eInt,zNI]) (by simp only [seval,FMW,eInt,zNI]) ?_ ?_)) h
 intro i3 e3 v5 q8
 refine .seqK (.sR fun e h=>?_)
 simp only [seval,EMW,und_75,q8,eInt]
 refine mU e (.condT rfl (.skip (Mir.toK (.seqK (.block (.sR fun e h=>?_)))))) h
 simp only [seval,EMW,und_75,sz_2,q8,Int.toNat_natCast,ag_2,eInt]
 refine mU e (.cond rfl (fun h6=>?_) (fun h6=>?_)) h
 refine .sR fun e h=>?_
 simp only [seval,EMW,eInt]
 refine mU e (.ret fun e h=>?_) h
 cases h
 simp only [seval,FMW,eInt,Tryz.results23]
 refine .skip (Mir.toB (Mir.toK (.region fun e h=>?_)))
 simp only [seval,EMW,eInt]
 cases h
 simp only [seval,FMW,eInt,Tryz.results23,q8]
 intro v5 q9
 refine .seqK (.sR fun e h=>?_)
 simp only [seval,EMW,und_75,q9,eInt]
 refine mU e (.condF rfl (.exit fun e h=>?_)) h
 cases h
 simp only [seval,FMW,eInt,Tryz.results23]
 intro v6
 refine Mir.toK (.region fun e h=>?_)
 simp only [seval,EMW,(nr rfl : IntKind.i64.wrap 4 = 4),eInt]
 refine Mir.useN (e := e) ?_ h
 refine .seqK (.sR fun e h=>?_)
 simp only [seval,EMW,(nr rfl : (decide ((4 : Int) ≤ 5)) = true),eInt]
 refine mU e (.condT rfl (.skip (Mir.toK (.seqK (Mir.join (fun v8 : Unit=>([.d (.int .i64 a0),U,U,.d (.int .i64 4)] ++ us 22)) (fun v8=>⟨[],[]⟩) (fun _=>rfl) ?_ ?_))))) h
 refine .block (.seqK (.bind fun y4 h7=>.region fun e h=>?_))
 simp only [seval,EMW,eInt]
 refine SpecS.by (r42_codes_spec h7) (by simp only [seval,FMW,eInt]) ?_
 simp only [seval,EMW,eInt]
 refine mU e (.sR fun e h=>?_) h
 simp only [seval,EMW,eInt]
 refine mU e (.block (.guard fun q10=>Mir.range (fun (i4 : Nat) (v7 : Unit)=>([.d (.int .i64 a0),U,U,.d (.int .i64 4),.d (.list (List.map (eInt .i64) y4)),.d (.int .i64 (i4 : Int))] ++ us 20)) (fun i4 v7=>⟨[],[]⟩) q10 (fun _ _=>rfl) (by simp only [seval,FMW,eInt,zNI]) (by simp only [seval,FMW,eInt,zNI]) ?_ ?_)) h
 intro i4 e4 v7 q11
 refine .seqK (.sR fun e h=>?_)
 simp only [seval,EMW,und_75,q11,eInt]
 refine mU e (.condT rfl (.skip (Mir.toK (.seqK (.block (.sR fun e h=>?_)))))) h
 simp only [seval,EMW,und_75,sz_2,q11,Int.toNat_natCast,ag_2,eInt]
 refine mU e (.cond rfl (fun h8=>?_) (fun h8=>?_)) h
 refine .sR fun e h=>?_
 simp only [seval,EMW,eInt]
 refine mU e (.ret fun e h=>?_) h
 cases h
 simp only [seval,FMW,eInt,Tryz.results23]
 refine .skip (Mir.toB (Mir.toK (.region fun e h=>?_)))
 simp only [seval,EMW,eInt]
 cases h
 simp only [seval,FMW,eInt,Tryz.results23,q11]
 intro v7 q12
 refine .seqK (.sR fun e h=>?_)
 simp only [seval,EMW,und_75,q12,eInt]
 refine mU e (.condF rfl (.exit fun e h=>?_)) h
 cases h
 simp only [seval,FMW,eInt,Tryz.results23]
 intro v8
 refine Mir.toK (.region fun e h=>?_)
 simp only [seval,EMW,(nr rfl : IntKind.i64.wrap 5 = 5),eInt]
 refine Mir.useN (e := e) ?_ h
 refine .seqK (.sR fun e h=>?_)
 simp only [seval,EMW,(nr rfl : (decide ((5 : Int) ≤ 5)) = true),eInt]
 refine mU e (.condT rfl (.skip (Mir.toK (.seqK (Mir.join (fun v10 : Unit=>([.d (.int .i64 a0),U,U,.d (.int .i64 5)] ++ us 22)) (fun v10=>⟨[],[]⟩) (fun _=>rfl) ?_ ?_))))) h
 refine .block (.seqK (.bind fun y5 h9=>.region fun e h=>?_))
 simp only [seval,EMW,eInt]
 refine SpecS.by (r42_codes_spec h9) (by simp only [seval,FMW,eInt]) ?_
 simp only [seval,EMW,eInt]
 refine mU e (.sR fun e h=>?_) h
 simp only [seval,EMW,eInt]
 refine mU e (.block (.guard fun q13=>Mir.range (fun (i5 : Nat) (v9 : Unit)=>([.d (.int .i64 a0),U,U,.d (.int .i64 5),.d (.list (List.map (eInt .i64) y5)),.d (.int .i64 (i5 : Int))] ++ us 20)) (fun i5 v9=>⟨[],[]⟩) q13 (fun _ _=>rfl) (by simp only [seval,FMW,eInt,zNI]) (by simp only [seval,FMW,eInt,zNI]) ?_ ?_)) h
 intro i5 e5 v9 q14
 refine .seqK (.sR fun e h=>?_)
 simp only [seval,EMW,und_75,q14,eInt]
 refine mU e (.condT rfl (.skip (Mir.toK (.seqK (.block (.sR fun e h=>?_)))))) h
 simp only [seval,EMW,und_75,sz_2,q14,Int.toNat_natCast,ag_2,eInt]
 refine mU e (.cond rfl (fun h10=>?_) (fun h10=>?_)) h
 refine .sR fun e h=>?_
 simp only [seval,EMW,eInt]
 refine mU e (.ret fun e h=>?_) h
 cases h
 simp only [seval,FMW,eInt,Tryz.results23]
 refine .skip (Mir.toB (Mir.toK (.region fun e h=>?_)))
 simp only [seval,EMW,eInt]
 cases h
 simp only [seval,FMW,eInt,Tryz.results23,q14]
 intro v9 q15
 refine .seqK (.sR fun e h=>?_)
 simp only [seval,EMW,und_75,q15,eInt]
 refine mU e (.condF rfl (.exit fun e h=>?_)) h
 cases h
 simp only [seval,FMW,eInt,Tryz.results23]
 intro v10
 refine Mir.toK (.region fun e h=>?_)
 simp only [seval,EMW,(nr rfl : IntKind.i64.wrap 6 = 6),eInt]
 refine Mir.useN (e := e) ?_ h
 refine .seqK (.sR fun e h=>?_)
 simp only [seval,EMW,(nr rfl : (decide ((6 : Int) ≤ 5)) = false),eInt]
 refine mU e (.condF rfl (.exit fun e h=>?_)) h
 cases h
 simp only [seval,FMW,eInt,Tryz.results23]
 intro v11
 refine Mir.toK (.sR fun e h=>?_)
 simp only [seval,EMW,eInt]
 refine mU e (.ret fun e h=>?_) h
 cases h
 simp only [seval,FMW,eInt,Tryz.results23]
def r42_class (a0 : ApiWord) : Option Int := if (a0.Letter == 71) = true then bindO (r42_Group a0.Value) fun (y1 : Int)=>some y1 else some (IntKind.i64.wrap (10 + (IntKind.i64.wrap a0.Letter)))
theorem r42_class_spec {a0 : ApiWord} {y : Int} (h : r42_class a0 = some y) : Spec gP 56 [.agg [.d (.int .u8 a0.Letter),.d (.int .i64 a0.Value)]] (.d (.int .i64 y)) := by
 refine spec_mir Tryz.func56 rfl (by kernel_rfl) (by kernel_rfl) (fun y : Int=>.d (.int .i64 y)) ?_ h
 unfold r42_class
 simp only [List.replicate,List.length,nS,nA,Tryz.ntmps56,SV]
 refine .sR fun e h=>?_
 simp only [seval,EMW]
 refine mU e (.seqK (.sR fun e h=>?_)) h
 simp only [seval,EMW,fld_117_0,sz_5,ag_5]
 refine mU e (.cond rfl (fun hb3=>?_) (fun hb3=>?_)) h
 refine .seqK (.bind fun y1 hy4=>.region fun e h=>?_)
 simp only [seval,EMW,fld_117_1,sz_2,ag_2]
 refine SpecS.by (r42_Group_spec hy4) (by simp only [seval,FMW]) ?_
 simp only [seval,EMW]
 refine mU e (.ret fun e h=>?_) h
 cases h
 simp only [seval,FMW,Tryz.results56]
 refine .skip (Mir.toK (.sR fun e h=>?_))
 simp only [seval,EMW,fld_117_0,sz_5,ag_5,und_5,und_3]
 refine mU e (.ret fun e h=>?_) h
 cases h
 simp only [seval,FMW,Tryz.results56]
def r42_whole (a0 : ApiWord) : Option Bool := if (a0.Letter == 70) = true then some (decide (a0.Value ≥ 0)) else bindO (if (a0.Letter == 84) = true then some (a0.Letter == 84) else some (a0.Letter == 72)) fun (v1 : Bool)=>if v1 = true then some ((decide (a0.Value ≥ 0)) && ((Int.tmod a0.Value 1000) == 0)) else some true
theorem r42_whole_spec {a0 : ApiWord} {y : Bool} (h : r42_whole a0 = some y) : Spec gP 57 [.agg [.d (.int .u8 a0.Letter),.d (.int .i64 a0.Value)]] (.d (.bool y)) := by
 refine spec_mir Tryz.func57 rfl (by kernel_rfl) (by kernel_rfl) (fun y : Bool=>.d (.bool y)) ?_ h
 unfold r42_whole
 simp only [List.replicate,List.length,nS,nA,Tryz.ntmps57,SV]
 refine .sR fun e h=>?_
 simp only [seval,EMW]
 refine mU e (.seqK (.sR fun e h=>?_)) h
 simp only [seval,EMW,fld_117_0,sz_5,ag_5]
 refine mU e (.block (.sR fun e h=>?_)) h
 simp only [seval,EMW]
 refine mU e (.cond rfl (fun hb11=>?_) (fun hb11=>?_)) h
 refine .sR fun e h=>?_
 simp only [seval,EMW,fld_117_1,sz_2,ag_2]
 refine mU e (.ret fun e h=>?_) h
 cases h
 simp only [seval,FMW,Tryz.results57]
 refine .seqK (.sR fun e h=>?_)
 simp only [seval,EMW]
 refine mU e (Mir.joinO (fun v1 : Bool=>([U,.ptr 0 0,U,U,U,U,U,U,U,U,.d (.bool v1)] ++ us 11)) (fun v1=>⟨[[.d (.int .u8 a0.Letter),.d (.int .i64 a0.Value)]],[]⟩) (fun _=>rfl) ?_ ?_) h
 refine .cond rfl (fun hb13=>?_) (fun hb13=>?_)
 refine .skip fun e h=>?_
 cases h
 simp only [seval,FMW,Tryz.results57]
 refine .region fun e h=>?_
 simp only [seval,EMW]
 cases h
 simp only [seval,FMW,Tryz.results57]
 intro v1
 refine Mir.toK (.cond rfl (fun hb16=>?_) (fun hb16=>?_))
 refine .seqK (.joinV ([U,U,.d (.bool ((decide (a0.Value ≥ 0)) && ((Int.tmod a0.Value 1000) == 0)))] ++ us 19) ⟨[[.d (.int .u8 a0.Letter),.d (.int .i64 a0.Value)]],[]⟩ rfl ?_ ?_)
 refine SWs.region ?_
 rcases Bool.eq_false_or_eq_true (decide (a0.Value ≥ 0)) with hb17 | hb17
 simp only [seval,EMW,SL,PB,fld_117_1,sz_2,ag_2,hb17]
 simp only [seval,EMW,SL,PB,fld_117_1,sz_2,ag_2,hb17]
 refine Mir.toK (.ret fun e h=>?_)
 cases h
 simp only [seval,FMW,Tryz.results57]
 refine .skip (Mir.toB (Mir.toK (.sR fun e h=>?_)))
 simp only [seval,EMW]
 refine mU e (.ret fun e h=>?_) h
 cases h
 simp only [seval,FMW,Tryz.results57]
def r42_Check (a0 : ApiBlock) : Option Int := bindX (guardO (okIdx a0.Words) ( rangeX (fun (i1 : Nat) (e1 : ApiWord) (v1 : Unit)=>bindX (bindO (r42_class e1) fun (y1 : Int)=>bindO (if (y1 == 0) = true then some true else bindO (r42_whole e1) fun (y2 : Bool)=>some (!y2)) fun (v2 : Bool)=>if v2 = true then some (.ret (.ret (.ret 1))) else loopX (fun (v3 : Int)=>if (decide (v3 < (i1 : Int))) = true then bindO (gt a0.Words v3) fun (e2 : ApiWord)=>bindO (r42_class e2) fun (y3 : Int)=>if (y3 == y1) = true then some (.ret (.ret (.ret (.ret 1)))) else some (.go (IntKind.i64.wrap (v3 + 1))) else some (.ret (.go ()))) fuel 0) fun (v4 : Unit)=>some (.go ())) (fun (v1 : Unit)=>some (.go ())) a0.Words 0 ())) fun (v5 : Unit)=>some 0
theorem r42_Check_spec {a0 : ApiBlock} {y : Int} (h : r42_Check a0 = some y) : Spec gP 24 [.agg [.d (.bool a0.Skip),.d (.list (List.map encApiWord a0.Words)),.d (.str a0.Comment)]] (.d (.int .i64 y)) := by
 refine spec_mir Tryz.func24 rfl (by kernel_rfl) (by kernel_rfl) (fun y : Int=>.d (.int .i64 y)) ?_ h
 unfold r42_Check
 simp only [List.replicate,List.length,nS,nA,Tryz.ntmps24,SV]
 refine .sR fun e h=>?_
 simp only [seval,EMW]
 refine mU e (.seqK (.sR fun e h=>?_)) h
 simp only [seval,EMW]
 refine mU e (Mir.join (fun v5 : Unit=>(us 43)) (fun v5=>⟨[[.d (.bool a0.Skip),.d (.list (List.map encApiWord a0.Words)),.d (.str a0.Comment)]],[]⟩) (fun _=>rfl) ?_ ?_) h
 refine .block (.guard fun q1=>Mir.range (fun (i1 : Nat) (v1 : Unit)=>([U,.ptr 0 0,U,.d (.int .i64 (i1 : Int))] ++ us 39)) (fun i1 v1=>⟨[[.d (.bool a0.Skip),.d (.list (List.map encApiWord a0.Words)),.d (.str a0.Comment)]],[]⟩) q1 (fun _ _=>rfl) (by simp only [seval,FMW,zNI]) (by simp only [seval,FMW,zNI]) ?_ ?_)
 intro i1 e1 v1 q2
 refine .seqK (.sR fun e h=>?_)
 simp only [seval,EMW,fld_32_1,sz_30,ag_30,und_30,q2]
 refine mU e (.condT rfl (.skip (Mir.toK (.seqK (Mir.join (fun v4 : Unit=>([U,.ptr 0 0,U,.d (.int .i64 (i1 : Int))] ++ us 39)) (fun v4=>⟨[[.d (.bool a0.Skip),.d (.list (List.map encApiWord a0.Words)),.d (.str a0.Comment)]],[]⟩) (fun _=>rfl) ?_ ?_))))) h
 refine .block (.seqK (.bind fun y1 h1=>.region fun e h=>?_))
 simp only [seval,EMW,fld_32_1,sz_30,ag_30,und_30,sz_117,q2,Int.toNat_natCast,ag_117]
 refine SpecS.by (r42_class_spec h1) (by simp only [seval,FMW]) ?_
 simp only [seval,EMW]
 refine mU e (.seqK (.seqK (Mir.joinO (fun v2 : Bool=>([U,.ptr 0 0,U,.d (.int .i64 (i1 : Int)),.d (.int .i64 y1),U,U,U,U,U,U,U,U,U,U,U,U,U,U,U,U,U,U,U,U,U,U,U,U,.d (.bool v2)] ++ us 13)) (fun v2=>⟨[[.d (.bool a0.Skip),.d (.list (List.map encApiWord a0.Words)),.d (.str a0.Comment)]],[]⟩) (fun _=>rfl) ?_ ?_))) h
 refine .ite (fun h2=>?_) (fun h2=>?_)
 refine .region fun e h=>?_
 simp only [seval,EMW,h2]
 cases h
 simp only [seval,FMW,h2]
 refine .bind fun y2 h3=>.region fun e h=>?_
 simp only [seval,EMW,fld_32_1,sz_30,ag_30,und_30,sz_117,q2,Int.toNat_natCast,ag_117,h2]
 refine SpecS.by (r42_whole_spec h3) (by simp only [seval,FMW,h2]) ?_
 simp only [seval,EMW,h2]
 cases h
 simp only [seval,FMW,h2]
 intro v2
 refine Mir.toK (.cond rfl (fun h4=>?_) (fun h4=>?_))
 refine .sR fun e h=>?_
 simp only [seval,EMW]
 refine mU e (.ret fun e h=>?_) h
 cases h
 simp only [seval,FMW,Tryz.results24]
 refine .skip (Mir.toK (.sR fun e h=>?_))
 simp only [seval,EMW]
 refine mU e (.block (Mir.loop (fun v3 : Int=>([U,.ptr 0 0,U,.d (.int .i64 (i1 : Int)),.d (.int .i64 y1),.d (.int .i64 v3)] ++ us 37)) (fun v3=>⟨[[.d (.bool a0.Skip),.d (.list (List.map encApiWord a0.Words)),.d (.str a0.Comment)]],[]⟩) (fun _=>rfl) (by simp only [seval,FMW]) (by simp only [seval,FMW]) fun v3=>.seqK (.sR fun e h=>?_))) h
 simp only [seval,EMW]
 refine mU e (.cond rfl (fun h5=>?_) (fun h5=>?_)) h
 refine .skip (Mir.toK (.seqK (.block (.seqK (.bind fun e2 q3=>?_)))))
 replace q3 := gt_ok q3
 refine .bind fun y3 h6=>.region fun e h=>?_
 simp only [seval,EMW,fld_32_1,sz_30,ag_30,und_30,sz_117,q3,ag_117]
 refine SpecS.by (r42_class_spec h6) (by simp only [seval,FMW]) ?_
 simp only [seval,EMW]
 refine mU e (.cond rfl (fun h7=>?_) (fun h7=>?_)) h
 refine .sR fun e h=>?_
 simp only [seval,EMW]
 refine mU e (.ret fun e h=>?_) h
 cases h
 simp only [seval,FMW,Tryz.results24]
 refine .skip (Mir.toB (Mir.toK (.region fun e h=>?_)))
 simp only [seval,EMW]
 cases h
 simp only [seval,FMW,Tryz.results24]
 refine .exit fun e h=>?_
 cases h
 simp only [seval,FMW,Tryz.results24]
 intro v4
 refine Mir.toK (.region fun e h=>?_)
 simp only [seval,EMW]
 cases h
 simp only [seval,FMW,Tryz.results24,q2]
 intro v1 q4
 refine .seqK (.sR fun e h=>?_)
 simp only [seval,EMW,fld_32_1,sz_30,ag_30,und_30,q4]
 refine mU e (.condF rfl (.exit fun e h=>?_)) h
 cases h
 simp only [seval,FMW,Tryz.results24]
 intro v5
 refine Mir.toK (.sR fun e h=>?_)
 simp only [seval,EMW]
 refine mU e (.ret fun e h=>?_) h
 cases h
 simp only [seval,FMW,Tryz.results24]
def r47_one (a0 : Int) (a1 : (List UInt8)) : Option Bool := bindX (guardO (okIdx a1) ( rangeX (fun (i1 : Nat) (c1 : UInt8) (v1 : Unit)=>if ((c1.toNat : Int) == a0) = true then some (.ret (.ret true)) else some (.go ())) (fun (v1 : Unit)=>some (.go ())) a1 0 ())) fun (v2 : Unit)=>some false
theorem r47_one_spec {a0 : Int} {a1 : (List UInt8)} {y : Bool} (h : r47_one a0 a1 = some y) : Spec gP 73 [.d (.int .u8 a0),.d (.str a1)] (.d (.bool y)) := by
 refine spec_mir Tryz.func73 rfl (by kernel_rfl) (by kernel_rfl) (fun y : Bool=>.d (.bool y)) ?_ h
 unfold r47_one
 simp only [List.replicate,List.length,nS,nA,Tryz.ntmps73,SV]
 refine .sR fun e h=>?_
 simp only [seval,EMW]
 refine mU e (.seqK (.sR fun e h=>?_)) h
 simp only [seval,EMW]
 refine mU e (Mir.join (fun v2 : Unit=>(us 17)) (fun v2=>⟨[],[]⟩) (fun _=>rfl) ?_ ?_) h
 refine .block (.guard fun qg51=>Mir.range (fun (i1 : Nat) (v1 : Unit)=>([.d (.int .u8 a0),.d (.str a1),U,U,U,.d (.int .i64 (i1 : Int))] ++ us 11)) (fun i1 v1=>⟨[],[]⟩) qg51 (fun _ _=>rfl) (by simp only [seval,FMW,zNI]) (by simp only [seval,FMW,zNI]) ?_ ?_)
 intro i1 c1 v1 qr49
 refine .seqK (.sR fun e h=>?_)
 simp only [seval,EMW,und_9,qr49]
 refine mU e (.condT rfl (.skip (Mir.toK (.seqK (.block (.sR fun e h=>?_)))))) h
 simp only [seval,EMW,und_9,Int.toNat_natCast,qr49]
 refine mU e (.cond rfl (fun hb54=>?_) (fun hb54=>?_)) h
 refine .sR fun e h=>?_
 simp only [seval,EMW]
 refine mU e (.ret fun e h=>?_) h
 cases h
 simp only [seval,FMW,Tryz.results73]
 refine .skip (Mir.toB (Mir.toK (.region fun e h=>?_)))
 simp only [seval,EMW]
 cases h
 simp only [seval,FMW,Tryz.results73,qr49]
 intro v1 qd50
 refine .seqK (.sR fun e h=>?_)
 simp only [seval,EMW,und_9,qd50]
 refine mU e (.condF rfl (.exit fun e h=>?_)) h
 cases h
 simp only [seval,FMW,Tryz.results73]
 intro v2
 refine Mir.toK (.sR fun e h=>?_)
 simp only [seval,EMW]
 refine mU e (.ret fun e h=>?_) h
 cases h
 simp only [seval,FMW,Tryz.results73]
def r47_known (a0 : ApiBlock) : Option Bool := bindO (bindO (r41_Valid a0) fun (y1 : Int)=>if (y1 != 0) = true then some true else bindO (r42_Check (ApiBlock.mk a0.Skip a0.Words a0.Comment)) fun (y2 : Int)=>some (y2 != 0)) fun (v1 : Bool)=>if v1 = true then some false else bindX (guardO (okIdx a0.Words) ( rangeX (fun (i1 : Nat) (e1 : ApiWord) (v2 : Unit)=>bindX (bindO (bindO (r47_one e1.Letter [71,77,84,70,72,83,78,88,89,90,73,74,81,82]) fun (y3 : Bool)=>if y3 = true then if (e1.Letter == 83) = true then some (decide (e1.Value < 0)) else some false else some true) fun (v3 : Bool)=>if v3 = true then some (.ret (.ret (.ret false))) else if (e1.Letter != 77) = true then some (.go ()) else bindO (if (e1.Value == 0) = true then some (e1.Value == 0) else if (e1.Value == 1000) = true then some (e1.Value == 1000) else if (e1.Value == 3000) = true then some (e1.Value == 3000) else if (e1.Value == 4000) = true then some (e1.Value == 4000) else if (e1.Value == 5000) = true then some (e1.Value == 5000) else if (e1.Value == 6000) = true then some (e1.Value == 6000) else if (e1.Value == 8000) = true then some (e1.Value == 8000) else if (e1.Value == 9000) = true then some (e1.Value == 9000) else some (e1.Value == 30000)) fun (v4 : Bool)=>if v4 = true then some (.go ()) else some (.ret (.ret (.ret false)))) fun (v5 : Unit)=>some (.go ())) (fun (v2 : Unit)=>some (.go ())) a0.Words 0 ())) fun (v6 : Unit)=>some true
theorem r47_known_spec {a0 : ApiBlock} {y : Bool} (h : r47_known a0 = some y) : Spec gP 39 [.agg [.d (.bool a0.Skip),.d (.list (List.map encApiWord a0.Words)),.d (.str a0.Comment)]] (.d (.bool y)) := by
 refine spec_mir Tryz.func39 rfl (by kernel_rfl) (by kernel_rfl) (fun y : Bool=>.d (.bool y)) ?_ h
 unfold r47_known
 simp only [List.replicate,List.length,nS,nA,Tryz.ntmps39,SV]
 refine .sR fun e h=>?_
 simp only [seval,EMW]
 refine mU e (.seqK (.seqK (Mir.joinO (fun v1 : Bool=>([U,.ptr 0 0,U,U,U,U,U,U,U,U,U,U,.d (.bool v1)] ++ us 41)) (fun v1=>⟨[[.d (.bool a0.Skip),.d (.list (List.map encApiWord a0.Words)),.d (.str a0.Comment)]],[]⟩) (fun _=>rfl) ?_ ?_))) h
 refine .bind fun y1 hy1=>.ite (fun hb2=>?_) (fun hb2=>?_)
 refine .region fun e h=>?_
 simp only [seval,EMW,ag_32,sz_32,hb2]
 refine SpecS.by (r41_Valid_spec hy1) (by simp only [seval,FMW,hb2]) ?_
 simp only [seval,EMW,hb2]
 cases h
 simp only [seval,FMW,hb2]
 refine .bind fun y2 hy3=>.region fun e h=>?_
 simp only [seval,EMW,ag_32,sz_32,hb2]
 refine SpecS.by (r41_Valid_spec hy1) (by simp only [seval,FMW,hb2]) ?_
 simp only [seval,EMW,ag_32,sz_32,hb2]
 refine SpecS.by (r42_Check_spec hy3) (by simp only [seval,FMW,hb2]) ?_
 simp only [seval,EMW,hb2]
 cases h
 simp only [seval,FMW,hb2]
 intro v1
 refine Mir.toK (.cond rfl (fun hb5=>?_) (fun hb5=>?_))
 refine .sR fun e h=>?_
 simp only [seval,EMW]
 refine mU e (.ret fun e h=>?_) h
 cases h
 simp only [seval,FMW,Tryz.results39]
 refine .skip (Mir.toK (.seqK (.sR fun e h=>?_)))
 simp only [seval,EMW]
 refine mU e (Mir.join (fun v6 : Unit=>(us 54)) (fun v6=>⟨[[.d (.bool a0.Skip),.d (.list (List.map encApiWord a0.Words)),.d (.str a0.Comment)]],[]⟩) (fun _=>rfl) ?_ ?_) h
 refine .block (.guard fun q1=>Mir.range (fun (i1 : Nat) (v2 : Unit)=>([U,.ptr 0 0,U,.d (.int .i64 (i1 : Int))] ++ us 50)) (fun i1 v2=>⟨[[.d (.bool a0.Skip),.d (.list (List.map encApiWord a0.Words)),.d (.str a0.Comment)]],[]⟩) q1 (fun _ _=>rfl) (by simp only [seval,FMW,zNI]) (by simp only [seval,FMW,zNI]) ?_ ?_)
 intro i1 e1 v2 q2
 refine .seqK (.sR fun e h=>?_)
 simp only [seval,EMW,fld_32_1,sz_30,ag_30,und_30,q2]
 refine mU e (.condT rfl (.skip (Mir.toK (.seqK (Mir.join (fun v5 : Unit=>([U,.ptr 0 0,U,.d (.int .i64 (i1 : Int))] ++ us 50)) (fun v5=>⟨[[.d (.bool a0.Skip),.d (.list (List.map encApiWord a0.Words)),.d (.str a0.Comment)]],[]⟩) (fun _=>rfl) ?_ ?_))))) h
 refine .block (.sR fun e h=>?_)
 simp only [seval,EMW,fld_32_1,sz_30,ag_30,und_30,sz_117,q2,Int.toNat_natCast,ag_117,zero_117]
 refine mU e (.seqK (.seqK (Mir.joinO (fun v3 : Bool=>([U,.ptr 0 0,U,.d (.int .i64 (i1 : Int)),.ptr 1 0,U,U,U,U,U,U,U,U,U,U,U,U,U,U,U,U,U,U,U,U,U,U,U,U,U,U,U,U,U,U,U,U,U,.d (.bool v3)] ++ us 15)) (fun v3=>⟨[[.d (.bool a0.Skip),.d (.list (List.map encApiWord a0.Words)),.d (.str a0.Comment)],[.d (.int .u8 e1.Letter),.d (.int .i64 e1.Value)]],[]⟩) (fun _=>rfl) ?_ ?_))) h
 refine .bind fun y3 h1=>.ite (fun h2=>?_) (fun h2=>?_)
 refine .ite (fun h3=>?_) (fun h3=>?_)
 refine .region fun e h=>?_
 simp only [seval,EMW,fld_117_0,sz_5,ag_5,h2,h3]
 refine SpecS.by (r47_one_spec h1) (by simp only [seval,FMW,h2,h3]) ?_
 simp only [seval,EMW,fld_117_0,sz_5,ag_5,fld_117_1,sz_2,ag_2,h2,h3]
 cases h
 simp only [seval,FMW,h2,h3]
 refine .region fun e h=>?_
 simp only [seval,EMW,fld_117_0,sz_5,ag_5,h2,h3]
 refine SpecS.by (r47_one_spec h1) (by simp only [seval,FMW,h2,h3]) ?_
 simp only [seval,EMW,fld_117_0,sz_5,ag_5,h2,h3]
 cases h
 simp only [seval,FMW,h2,h3]
 refine .region fun e h=>?_
 simp only [seval,EMW,fld_117_0,sz_5,ag_5,h2]
 refine SpecS.by (r47_one_spec h1) (by simp only [seval,FMW,h2]) ?_
 simp only [seval,EMW,h2]
 cases h
 simp only [seval,FMW,h2]
 intro v3
 refine Mir.toK (.cond rfl (fun h4=>?_) (fun h4=>?_))
 refine .sR fun e h=>?_
 simp only [seval,EMW]
 refine mU e (.ret fun e h=>?_) h
 cases h
 simp only [seval,FMW,Tryz.results39]
 refine .skip (Mir.toK (.seqK (.sR fun e h=>?_)))
 simp only [seval,EMW,fld_117_0,sz_5,ag_5]
 refine mU e (.cond rfl (fun h5=>?_) (fun h5=>?_)) h
 refine .exit fun e h=>?_
 cases h
 simp only [seval,FMW,Tryz.results39]
 refine .skip (Mir.toK (.sR fun e h=>?_))
 simp only [seval,EMW,fld_117_1,sz_2,ag_2]
 refine mU e (.block (.seqK (.sR fun e h=>?_))) h
 simp only [seval,EMW]
 refine mU e (Mir.joinO (fun v4 : Bool=>([U,.ptr 0 0,U,.d (.int .i64 (i1 : Int)),U,U,U,U,U,U,U,U,U,U,U,U,U,U,U,U,U,U,U,U,U,U,U,U,U,U,U,U,U,U,U,U,U,U,U,U,U,U,U,U,.d (.bool v4)] ++ us 9)) (fun v4=>⟨[[.d (.bool a0.Skip),.d (.list (List.map encApiWord a0.Words)),.d (.str a0.Comment)],[.d (.int .u8 e1.Letter),.d (.int .i64 e1.Value)]],[]⟩) (fun _=>rfl) ?_ ?_) h
 refine .cond rfl (fun h6=>?_) (fun h6=>?_)
 refine .skip fun e h=>?_
 cases h
 simp only [seval,FMW,Tryz.results39]
 refine .sR fun e h=>?_
 simp only [seval,EMW]
 refine mU e (.cond rfl (fun h7=>?_) (fun h7=>?_)) h
 refine .skip fun e h=>?_
 cases h
 simp only [seval,FMW,Tryz.results39]
 refine .sR fun e h=>?_
 simp only [seval,EMW]
 refine mU e (.cond rfl (fun h8=>?_) (fun h8=>?_)) h
 refine .skip fun e h=>?_
 cases h
 simp only [seval,FMW,Tryz.results39]
 refine .sR fun e h=>?_
 simp only [seval,EMW]
 refine mU e (.cond rfl (fun h9=>?_) (fun h9=>?_)) h
 refine .skip fun e h=>?_
 cases h
 simp only [seval,FMW,Tryz.results39]
 refine .sR fun e h=>?_
 simp only [seval,EMW]
 refine mU e (.cond rfl (fun h10=>?_) (fun h10=>?_)) h
 refine .skip fun e h=>?_
 cases h
 simp only [seval,FMW,Tryz.results39]
 refine .sR fun e h=>?_
 simp only [seval,EMW]
 refine mU e (.cond rfl (fun h11=>?_) (fun h11=>?_)) h
 refine .skip fun e h=>?_
 cases h
 simp only [seval,FMW,Tryz.results39]
 refine .sR fun e h=>?_
 simp only [seval,EMW]
 refine mU e (.cond rfl (fun h12=>?_) (fun h12=>?_)) h
 refine .skip fun e h=>?_
 cases h
 simp only [seval,FMW,Tryz.results39]
 refine .sR fun e h=>?_
 simp only [seval,EMW]
 refine mU e (.cond rfl (fun h13=>?_) (fun h13=>?_)) h
 refine .skip fun e h=>?_
 cases h
 simp only [seval,FMW,Tryz.results39]
 refine .region fun e h=>?_
 simp only [seval,EMW]
 cases h
 simp only [seval,FMW,Tryz.results39]
 intro v4
 refine Mir.toK (.cond rfl (fun h14=>?_) (fun h14=>?_))
 refine .skip fun e h=>?_
 cases h
 simp only [seval,FMW,Tryz.results39]
 refine .sR fun e h=>?_
 simp only [seval,EMW]
 refine mU e (.ret fun e h=>?_) h
 cases h
 simp only [seval,FMW,Tryz.results39]
 intro v5
 refine Mir.toK (.region fun e h=>?_)
 simp only [seval,EMW]
 cases h
 simp only [seval,FMW,Tryz.results39,q2]
 intro v2 q3
 refine .seqK (.sR fun e h=>?_)
 simp only [seval,EMW,fld_32_1,sz_30,ag_30,und_30,q3]
 refine mU e (.condF rfl (.exit fun e h=>?_)) h
 cases h
 simp only [seval,FMW,Tryz.results39]
 intro v6
 refine Mir.toK (.sR fun e h=>?_)
 simp only [seval,EMW]
 refine mU e (.ret fun e h=>?_) h
 cases h
 simp only [seval,FMW,Tryz.results39]
def r42_one (a0 : R42State) (a1 : ApiWord) : Option R42State := bindO (if (a1.Letter == 70) = true then some (R42State.mk a0.Motion a0.Distance a0.Work a0.Length a0.Return a1.Value a0.Tool a0.Offset) else if (a1.Letter == 84) = true then some (R42State.mk a0.Motion a0.Distance a0.Work a0.Length a0.Return a0.Feed a1.Value a0.Offset) else if (a1.Letter == 72) = true then some (R42State.mk a0.Motion a0.Distance a0.Work a0.Length a0.Return a0.Feed a0.Tool a1.Value) else if (a1.Letter == 71) = true then bindO (r42_Group a1.Value) fun (y1 : Int)=>if (y1 == 1) = true then some (R42State.mk a1.Value a0.Distance a0.Work a0.Length a0.Return a0.Feed a0.Tool a0.Offset) else if (y1 == 2) = true then some (R42State.mk a0.Motion a1.Value a0.Work a0.Length a0.Return a0.Feed a0.Tool a0.Offset) else if (y1 == 3) = true then some (R42State.mk a0.Motion a0.Distance a1.Value a0.Length a0.Return a0.Feed a0.Tool a0.Offset) else if (y1 == 4) = true then some (R42State.mk a0.Motion a0.Distance a0.Work a1.Value a0.Return a0.Feed a0.Tool a0.Offset) else if (y1 == 5) = true then some (R42State.mk a0.Motion a0.Distance a0.Work a0.Length a1.Value a0.Feed a0.Tool a0.Offset) else some a0 else some a0) fun (v1 : R42State)=>some v1
theorem r42_one_spec {a0 : R42State} {a1 : ApiWord} {y : R42State} (h : r42_one a0 a1 = some y) : Spec gP 74 [.agg [.d (.int .i64 a0.Motion),.d (.int .i64 a0.Distance),.d (.int .i64 a0.Work),.d (.int .i64 a0.Length),.d (.int .i64 a0.Return),.d (.int .i64 a0.Feed),.d (.int .i64 a0.Tool),.d (.int .i64 a0.Offset)],.agg [.d (.int .u8 a1.Letter),.d (.int .i64 a1.Value)]] (.agg [.d (.int .i64 y.Motion),.d (.int .i64 y.Distance),.d (.int .i64 y.Work),.d (.int .i64 y.Length),.d (.int .i64 y.Return),.d (.int .i64 y.Feed),.d (.int .i64 y.Tool),.d (.int .i64 y.Offset)]) := by
 refine spec_mir Tryz.func74 rfl (by kernel_rfl) (by kernel_rfl) (fun y : R42State=>.agg [.d (.int .i64 y.Motion),.d (.int .i64 y.Distance),.d (.int .i64 y.Work),.d (.int .i64 y.Length),.d (.int .i64 y.Return),.d (.int .i64 y.Feed),.d (.int .i64 y.Tool),.d (.int .i64 y.Offset)]) ?_ h
 unfold r42_one
 simp only [List.replicate,List.length,nS,nA,Tryz.ntmps74,SV]
 refine .sR fun e h=>?_
 simp only [seval,EMW,zero_23]
 refine mU e (.seqK (.sR fun e h=>?_)) h
 simp only [seval,EMW,fld_117_0,sz_5,ag_5]
 refine mU e (Mir.joinO (fun v1 : R42State=>([U,U,.ptr 0 0,U,.ptr 2 0] ++ us 48)) (fun v1=>⟨[[.d (.int .i64 v1.Motion),.d (.int .i64 v1.Distance),.d (.int .i64 v1.Work),.d (.int .i64 v1.Length),.d (.int .i64 v1.Return),.d (.int .i64 v1.Feed),.d (.int .i64 v1.Tool),.d (.int .i64 v1.Offset)],[.d (.int .u8 a1.Letter),.d (.int .i64 a1.Value)],[.d (.int .i64 0),.d (.int .i64 0),.d (.int .i64 0),.d (.int .i64 0),.d (.int .i64 0),.d (.int .i64 0),.d (.int .i64 0),.d (.int .i64 0)]],[]⟩) (fun _=>rfl) ?_ ?_) h
 refine .block (.sR fun e h=>?_)
 simp only [seval,EMW]
 refine mU e (.cond rfl (fun hb11=>?_) (fun hb11=>?_)) h
 refine .region fun e h=>?_
 simp only [seval,EMW,fld_117_1,sz_2,ag_2,fld_23_5]
 cases h
 simp only [seval,FMW,Tryz.results74,ag_23,sz_23]
 refine .sR fun e h=>?_
 simp only [seval,EMW]
 refine mU e (.cond rfl (fun hb12=>?_) (fun hb12=>?_)) h
 refine .region fun e h=>?_
 simp only [seval,EMW,fld_117_1,sz_2,ag_2,fld_23_6]
 cases h
 simp only [seval,FMW,Tryz.results74,ag_23,sz_23]
 refine .sR fun e h=>?_
 simp only [seval,EMW]
 refine mU e (.cond rfl (fun hb13=>?_) (fun hb13=>?_)) h
 refine .region fun e h=>?_
 simp only [seval,EMW,fld_117_1,sz_2,ag_2,fld_23_7]
 cases h
 simp only [seval,FMW,Tryz.results74,ag_23,sz_23]
 refine .sR fun e h=>?_
 simp only [seval,EMW]
 refine mU e (.cond rfl (fun hb14=>?_) (fun hb14=>?_)) h
 refine .seqK (.bind fun y1 hy15=>.region fun e h=>?_)
 simp only [seval,EMW,fld_117_1,sz_2,ag_2]
 refine SpecS.by (r42_Group_spec hy15) (by simp only [seval,FMW]) ?_
 simp only [seval,EMW]
 refine mU e (.block (.sR fun e h=>?_)) h
 simp only [seval,EMW]
 refine mU e (.cond rfl (fun hb16=>?_) (fun hb16=>?_)) h
 refine .region fun e h=>?_
 simp only [seval,EMW,fld_117_1,sz_2,ag_2,fld_23_0]
 cases h
 simp only [seval,FMW,Tryz.results74,ag_23,sz_23]
 refine .sR fun e h=>?_
 simp only [seval,EMW]
 refine mU e (.cond rfl (fun hb17=>?_) (fun hb17=>?_)) h
 refine .region fun e h=>?_
 simp only [seval,EMW,fld_117_1,sz_2,ag_2,fld_23_1]
 cases h
 simp only [seval,FMW,Tryz.results74,ag_23,sz_23]
 refine .sR fun e h=>?_
 simp only [seval,EMW]
 refine mU e (.cond rfl (fun hb18=>?_) (fun hb18=>?_)) h
 refine .region fun e h=>?_
 simp only [seval,EMW,fld_117_1,sz_2,ag_2,fld_23_2]
 cases h
 simp only [seval,FMW,Tryz.results74,ag_23,sz_23]
 refine .sR fun e h=>?_
 simp only [seval,EMW]
 refine mU e (.cond rfl (fun hb19=>?_) (fun hb19=>?_)) h
 refine .region fun e h=>?_
 simp only [seval,EMW,fld_117_1,sz_2,ag_2,fld_23_3]
 cases h
 simp only [seval,FMW,Tryz.results74,ag_23,sz_23]
 refine .sR fun e h=>?_
 simp only [seval,EMW]
 refine mU e (.cond rfl (fun hb20=>?_) (fun hb20=>?_)) h
 refine .region fun e h=>?_
 simp only [seval,EMW,fld_117_1,sz_2,ag_2,fld_23_4]
 cases h
 simp only [seval,FMW,Tryz.results74,ag_23,sz_23]
 refine .skip fun e h=>?_
 cases h
 simp only [seval,FMW,Tryz.results74,ag_23,sz_23]
 refine .skip fun e h=>?_
 cases h
 simp only [seval,FMW,Tryz.results74,ag_23,sz_23]
 intro v1
 refine Mir.toK (.sR fun e h=>?_)
 simp only [seval,EMW,ag_23,sz_23]
 refine mU e (.ret fun e h=>?_) h
 cases h
 simp only [seval,FMW,Tryz.results74,ag_23,sz_23]
def r42_Apply (a0 : R42State) (a1 : ApiBlock) : Option (R42State × Int) := bindO (r42_Check a1) fun (y1 : Int)=>if (y1 != 0) = true then some (R42State.mk 0 0 0 0 0 0 0 0,y1) else bindO (guardO (okIdx a1.Words) ( rangeX (fun (i1 : Nat) (e1 : ApiWord) (v1 : R42State)=>bindO (r42_one v1 e1) fun (y2 : R42State)=>some (.go y2)) (fun (v1 : R42State)=>some v1) a1.Words 0 a0)) fun (v2 : R42State)=>some (v2,0)
theorem r42_Apply_spec {a0 : R42State} {a1 : ApiBlock} {y : R42State × Int} (h : r42_Apply a0 a1 = some y) : Spec gP 40 [.agg [.d (.int .i64 a0.Motion),.d (.int .i64 a0.Distance),.d (.int .i64 a0.Work),.d (.int .i64 a0.Length),.d (.int .i64 a0.Return),.d (.int .i64 a0.Feed),.d (.int .i64 a0.Tool),.d (.int .i64 a0.Offset)],.agg [.d (.bool a1.Skip),.d (.list (List.map encApiWord a1.Words)),.d (.str a1.Comment)]] (.tuple [.agg [.d (.int .i64 y.1.Motion),.d (.int .i64 y.1.Distance),.d (.int .i64 y.1.Work),.d (.int .i64 y.1.Length),.d (.int .i64 y.1.Return),.d (.int .i64 y.1.Feed),.d (.int .i64 y.1.Tool),.d (.int .i64 y.1.Offset)],.d (.int .i64 y.2)]) := by
 refine spec_mir Tryz.func40 rfl (by kernel_rfl) (by kernel_rfl) (fun y : R42State × Int=>.tuple [.agg [.d (.int .i64 y.1.Motion),.d (.int .i64 y.1.Distance),.d (.int .i64 y.1.Work),.d (.int .i64 y.1.Length),.d (.int .i64 y.1.Return),.d (.int .i64 y.1.Feed),.d (.int .i64 y.1.Tool),.d (.int .i64 y.1.Offset)],.d (.int .i64 y.2)]) ?_ h
 unfold r42_Apply
 simp only [List.replicate,List.length,nS,nA,Tryz.ntmps40,SV]
 refine .sR fun e h=>?_
 simp only [seval,EMW,zero_23]
 refine mU e (.seqK (.seqK (.bind fun y1 hy1=>.region fun e h=>?_))) h
 simp only [seval,EMW,ag_32,sz_32]
 refine SpecS.by (r42_Check_spec hy1) (by simp only [seval,FMW]) ?_
 simp only [seval,EMW]
 refine mU e (.sR fun e h=>?_) h
 simp only [seval,EMW]
 refine mU e (.cond rfl (fun hb3=>?_) (fun hb3=>?_)) h
 refine .sR fun e h=>?_
 simp only [seval,EMW,zero_23,pl_23,sz_23]
 refine mU e (.ret fun e h=>?_) h
 cases h
 simp only [seval,FMW,Tryz.results40,ag_23,sz_23]
 refine .skip (Mir.toK (.seqK (.sR fun e h=>?_)))
 simp only [seval,EMW]
 refine mU e (Mir.joinO (fun v2 : R42State=>([U,U,.ptr 0 0,U,.ptr 2 0] ++ us 24)) (fun v2=>⟨[[.d (.int .i64 v2.Motion),.d (.int .i64 v2.Distance),.d (.int .i64 v2.Work),.d (.int .i64 v2.Length),.d (.int .i64 v2.Return),.d (.int .i64 v2.Feed),.d (.int .i64 v2.Tool),.d (.int .i64 v2.Offset)],[.d (.bool a1.Skip),.d (.list (List.map encApiWord a1.Words)),.d (.str a1.Comment)],[.d (.int .i64 0),.d (.int .i64 0),.d (.int .i64 0),.d (.int .i64 0),.d (.int .i64 0),.d (.int .i64 0),.d (.int .i64 0),.d (.int .i64 0)]],[]⟩) (fun _=>rfl) ?_ ?_) h
 refine .block (.guard fun qg47=>Mir.range (fun (i1 : Nat) (v1 : R42State)=>([U,U,.ptr 0 0,.ptr 1 0,.ptr 2 0,U,U,.d (.int .i64 (i1 : Int))] ++ us 21)) (fun i1 v1=>⟨[[.d (.int .i64 v1.Motion),.d (.int .i64 v1.Distance),.d (.int .i64 v1.Work),.d (.int .i64 v1.Length),.d (.int .i64 v1.Return),.d (.int .i64 v1.Feed),.d (.int .i64 v1.Tool),.d (.int .i64 v1.Offset)],[.d (.bool a1.Skip),.d (.list (List.map encApiWord a1.Words)),.d (.str a1.Comment)],[.d (.int .i64 0),.d (.int .i64 0),.d (.int .i64 0),.d (.int .i64 0),.d (.int .i64 0),.d (.int .i64 0),.d (.int .i64 0),.d (.int .i64 0)]],[]⟩) qg47 (fun _ _=>rfl) (by simp only [seval,FMW,zNI]) (by simp only [seval,FMW,zNI]) ?_ ?_)
 intro i1 e1 v1 qr45
 refine .seqK (.sR fun e h=>?_)
 simp only [seval,EMW,fld_32_1,sz_30,ag_30,und_30,qr45]
 refine mU e (.condT rfl (.skip (Mir.toK (.seqK (.block (.bind fun y2 hy49=>.regionD [] (by kernel_rfl) fun e h=>?_)))))) h
 simp only [seval,EMW,SB,ag_23,sz_23,fld_32_1,sz_30,ag_30,und_30,sz_117,qr45,Int.toNat_natCast,ag_117]
 refine Spec.by (r42_one_spec hy49) (by simp only [seval,FMW]) ?_
 simp only [seval,EMW,SB,sz_23]
 refine mU e (.region fun e h=>?_) h
 simp only [seval,EMW]
 cases h
 simp only [seval,FMW,Tryz.results40,ag_23,sz_23,qr45]
 intro v1 qd46
 refine .seqK (.sR fun e h=>?_)
 simp only [seval,EMW,fld_32_1,sz_30,ag_30,und_30,qd46]
 refine mU e (.condF rfl (.exit fun e h=>?_)) h
 cases h
 simp only [seval,FMW,Tryz.results40,ag_23,sz_23]
 intro v2
 refine Mir.toK (.sR fun e h=>?_)
 simp only [seval,EMW,ag_23,sz_23]
 refine mU e (.ret fun e h=>?_) h
 cases h
 simp only [seval,FMW,Tryz.results40,ag_23,sz_23]
def r47_Drills (a0 : Int) : Option Bool := some ((a0 == 81000) || ((a0 == 82000) || (a0 == 83000)))
theorem r47_Drills_spec {a0 : Int} {y : Bool} (h : r47_Drills a0 = some y) : Spec gP 41 [.d (.int .i64 a0)] (.d (.bool y)) := by
 refine spec_mir Tryz.func41 rfl (by kernel_rfl) (by kernel_rfl) (fun y : Bool=>.d (.bool y)) ?_ h
 unfold r47_Drills
 simp only [List.replicate,List.length,nS,nA,Tryz.ntmps41,SV]
 refine .sR fun e h=>?_
 simp only [seval,EMW]
 refine mU e (.seqK (.joinV ([U,U,.d (.bool ((a0 == 81000) || ((a0 == 82000) || (a0 == 83000))))] ++ us 10) ⟨[],[]⟩ rfl ?_ ?_)) h
 refine SWs.region ?_
 rcases Bool.eq_false_or_eq_true (a0 == 81000) with hb1 | hb1
 simp only [seval,EMW,SL,PB,hb1]
 rcases Bool.eq_false_or_eq_true (a0 == 82000) with hb2 | hb2
 simp only [seval,EMW,SL,PB,hb1,hb2]
 simp only [seval,EMW,SL,PB,hb1,hb2]
 refine Mir.toK (.ret fun e h=>?_)
 cases h
 simp only [seval,FMW,Tryz.results41]
def r47_some (a0 : ApiBlock) (a1 : (List UInt8)) : Option Bool := bindX (guardO (okIdx a0.Words) ( rangeX (fun (i1 : Nat) (e1 : ApiWord) (v1 : Unit)=>bindO (r47_one e1.Letter a1) fun (y1 : Bool)=>if y1 = true then some (.ret (.ret true)) else some (.go ())) (fun (v1 : Unit)=>some (.go ())) a0.Words 0 ())) fun (v2 : Unit)=>some false
theorem r47_some_spec {a0 : ApiBlock} {a1 : (List UInt8)} {y : Bool} (h : r47_some a0 a1 = some y) : Spec gP 42 [.agg [.d (.bool a0.Skip),.d (.list (List.map encApiWord a0.Words)),.d (.str a0.Comment)],.d (.str a1)] (.d (.bool y)) := by
 refine spec_mir Tryz.func42 rfl (by kernel_rfl) (by kernel_rfl) (fun y : Bool=>.d (.bool y)) ?_ h
 unfold r47_some
 simp only [List.replicate,List.length,nS,nA,Tryz.ntmps42,SV]
 refine .sR fun e h=>?_
 simp only [seval,EMW]
 refine mU e (.seqK (.sR fun e h=>?_)) h
 simp only [seval,EMW]
 refine mU e (Mir.join (fun v2 : Unit=>(us 21)) (fun v2=>⟨[[.d (.bool a0.Skip),.d (.list (List.map encApiWord a0.Words)),.d (.str a0.Comment)]],[]⟩) (fun _=>rfl) ?_ ?_) h
 refine .block (.guard fun qg65=>Mir.range (fun (i1 : Nat) (v1 : Unit)=>([U,.d (.str a1),.ptr 0 0,U,U,.d (.int .i64 (i1 : Int))] ++ us 15)) (fun i1 v1=>⟨[[.d (.bool a0.Skip),.d (.list (List.map encApiWord a0.Words)),.d (.str a0.Comment)]],[]⟩) qg65 (fun _ _=>rfl) (by simp only [seval,FMW,zNI]) (by simp only [seval,FMW,zNI]) ?_ ?_)
 intro i1 e1 v1 qr63
 refine .seqK (.sR fun e h=>?_)
 simp only [seval,EMW,fld_32_1,sz_30,ag_30,und_30,qr63]
 refine mU e (.condT rfl (.skip (Mir.toK (.seqK (.block (.seqK (.bind fun y1 hy68=>.region fun e h=>?_))))))) h
 simp only [seval,EMW,fld_32_1,sz_30,ag_30,und_30,sz_117,qr63,Int.toNat_natCast,fld_117_0,sz_5,ag_5]
 refine SpecS.by (r47_one_spec hy68) (by simp only [seval,FMW]) ?_
 simp only [seval,EMW]
 refine mU e (.cond rfl (fun hb70=>?_) (fun hb70=>?_)) h
 refine .sR fun e h=>?_
 simp only [seval,EMW]
 refine mU e (.ret fun e h=>?_) h
 cases h
 simp only [seval,FMW,Tryz.results42]
 refine .skip (Mir.toB (Mir.toK (.region fun e h=>?_)))
 simp only [seval,EMW]
 cases h
 simp only [seval,FMW,Tryz.results42,qr63]
 intro v1 qd64
 refine .seqK (.sR fun e h=>?_)
 simp only [seval,EMW,fld_32_1,sz_30,ag_30,und_30,qd64]
 refine mU e (.condF rfl (.exit fun e h=>?_)) h
 cases h
 simp only [seval,FMW,Tryz.results42]
 intro v2
 refine Mir.toK (.sR fun e h=>?_)
 simp only [seval,EMW]
 refine mU e (.ret fun e h=>?_) h
 cases h
 simp only [seval,FMW,Tryz.results42]
def r47_number (a0 : R42State) : Option Int := if (a0.Length == 43000) = true then some (IntKind.i64.wrap (Int.tdiv a0.Offset 1000)) else some 0
theorem r47_number_spec {a0 : R42State} {y : Int} (h : r47_number a0 = some y) : Spec gP 44 [.agg [.d (.int .i64 a0.Motion),.d (.int .i64 a0.Distance),.d (.int .i64 a0.Work),.d (.int .i64 a0.Length),.d (.int .i64 a0.Return),.d (.int .i64 a0.Feed),.d (.int .i64 a0.Tool),.d (.int .i64 a0.Offset)]] (.d (.int .i64 y)) := by
 refine spec_mir Tryz.func44 rfl (by kernel_rfl) (by kernel_rfl) (fun y : Int=>.d (.int .i64 y)) ?_ h
 unfold r47_number
 simp only [List.replicate,List.length,nS,nA,Tryz.ntmps44,SV]
 refine .sR fun e h=>?_
 simp only [seval,EMW]
 refine mU e (.seqK (.sR fun e h=>?_)) h
 simp only [seval,EMW,fld_23_3,sz_2,ag_2]
 refine mU e (.cond rfl (fun hb2=>?_) (fun hb2=>?_)) h
 refine .sR fun e h=>?_
 simp only [seval,EMW,fld_23_7,sz_2,ag_2]
 refine mU e (.ret fun e h=>?_) h
 cases h
 simp only [seval,FMW,Tryz.results44]
 refine .skip (Mir.toK (.sR fun e h=>?_))
 simp only [seval,EMW]
 refine mU e (.ret fun e h=>?_) h
 cases h
 simp only [seval,FMW,Tryz.results44]
def r45_index (a0 : Int) : Option Int := if ((decide (a0 < 54000)) || ((decide (a0 > 59000)) || ((Int.tmod a0 1000) != 0))) = true then some (-1) else some (IntKind.i64.wrap ((IntKind.i64.wrap (Int.tdiv a0 1000)) - 54))
theorem r45_index_spec {a0 : Int} {y : Int} (h : r45_index a0 = some y) : Spec gP 123 [.d (.int .i64 a0)] (.d (.int .i64 y)) := by
 refine spec_mir Tryz.func123 rfl (by kernel_rfl) (by kernel_rfl) (fun y : Int=>.d (.int .i64 y)) ?_ h
 unfold r45_index
 simp only [List.replicate,List.length,nS,nA,Tryz.ntmps123,SV]
 refine .sR fun e h=>?_
 simp only [seval,EMW]
 refine mU e (.seqK (.seqK (.joinV [.d (.int .i64 a0),U,U,U,U,U,U,U,U,U,U,U,U,.d (.bool ((decide (a0 < 54000)) || ((decide (a0 > 59000)) || ((Int.tmod a0 1000) != 0)))),U,U,U] ⟨[],[]⟩ rfl ?_ ?_))) h
 refine SWs.region ?_
 rcases Bool.eq_false_or_eq_true (decide (a0 < 54000)) with hb1 | hb1
 simp only [seval,EMW,SL,PB,hb1]
 rcases Bool.eq_false_or_eq_true (decide (a0 > 59000)) with hb2 | hb2
 simp only [seval,EMW,SL,PB,hb1,hb2]
 simp only [seval,EMW,SL,PB,hb1,hb2]
 refine Mir.toK (.cond rfl (fun hb4=>?_) (fun hb4=>?_))
 refine .sR fun e h=>?_
 simp only [seval,EMW]
 refine mU e (.ret fun e h=>?_) h
 cases h
 simp only [seval,FMW,Tryz.results123]
 refine .skip (Mir.toK (.sR fun e h=>?_))
 simp only [seval,EMW]
 refine mU e (.ret fun e h=>?_) h
 cases h
 simp only [seval,FMW,Tryz.results123]
def r45_shift (a0 : R45Table) (a1 : Int) (a2 : Int) : Option (ApiPos × Int) := bindO (r45_Valid a0) fun (y1 : Int)=>if (y1 != 0) = true then some (ApiPos.mk 0 0 0,y1) else bindO (r45_index a1) fun (y2 : Int)=>if (decide (y2 < 0)) = true then some (ApiPos.mk 0 0 0,4) else bindO (guardO (decide (0 ≤ y2 ∧ y2 < 6)) ( if (y2 == 0) = true then some a0.Work.e0 else if (y2 == 1) = true then some a0.Work.e1 else if (y2 == 2) = true then some a0.Work.e2 else if (y2 == 3) = true then some a0.Work.e3 else if (y2 == 4) = true then some a0.Work.e4 else some a0.Work.e5)) fun (v1 : ApiPos)=>if (a2 == 0) = true then some (v1,0) else bindX (guardO (okIdx a0.Lengths) ( rangeX (fun (i1 : Nat) (e1 : R45Length) (v2 : Unit)=>if (e1.Number == a2) = true then some (.ret (.ret (ApiPos.mk v1.X v1.Y (IntKind.i64.wrap (v1.Z + e1.Length)),0))) else some (.go ())) (fun (v2 : Unit)=>some (.go ())) a0.Lengths 0 ())) fun (v3 : Unit)=>some (ApiPos.mk 0 0 0,4)
theorem r45_shift_spec {a0 : R45Table} {a1 : Int} {a2 : Int} {y : ApiPos × Int} (h : r45_shift a0 a1 a2 = some y) : Spec gP 96 [.agg [.d (.int .i64 a0.Work.e0.X),.d (.int .i64 a0.Work.e0.Y),.d (.int .i64 a0.Work.e0.Z),.d (.int .i64 a0.Work.e1.X),.d (.int .i64 a0.Work.e1.Y),.d (.int .i64 a0.Work.e1.Z),.d (.int .i64 a0.Work.e2.X),.d (.int .i64 a0.Work.e2.Y),.d (.int .i64 a0.Work.e2.Z),.d (.int .i64 a0.Work.e3.X),.d (.int .i64 a0.Work.e3.Y),.d (.int .i64 a0.Work.e3.Z),.d (.int .i64 a0.Work.e4.X),.d (.int .i64 a0.Work.e4.Y),.d (.int .i64 a0.Work.e4.Z),.d (.int .i64 a0.Work.e5.X),.d (.int .i64 a0.Work.e5.Y),.d (.int .i64 a0.Work.e5.Z),.d (.list (List.map encR45Length a0.Lengths))],.d (.int .i64 a1),.d (.int .i64 a2)] (.tuple [.agg [.d (.int .i64 y.1.X),.d (.int .i64 y.1.Y),.d (.int .i64 y.1.Z)],.d (.int .i64 y.2)]) := by
 refine spec_mir Tryz.func96 rfl (by kernel_rfl) (by kernel_rfl) (fun y : ApiPos × Int=>.tuple [.agg [.d (.int .i64 y.1.X),.d (.int .i64 y.1.Y),.d (.int .i64 y.1.Z)],.d (.int .i64 y.2)]) ?_ h
 unfold r45_shift
 simp only [List.replicate,List.length,nS,nA,Tryz.ntmps96,SV]
 refine .sR fun e h=>?_
 simp only [seval,EMW,zero_27]
 refine mU e (.seqK (.seqK (.bind fun y1 hy1=>.region fun e h=>?_))) h
 simp only [seval,EMW,ag_36,sz_36]
 refine SpecS.by (r45_Valid_spec hy1) (by simp only [seval,FMW]) ?_
 simp only [seval,EMW]
 refine mU e (.sR fun e h=>?_) h
 simp only [seval,EMW]
 refine mU e (.cond rfl (fun hb3=>?_) (fun hb3=>?_)) h
 refine .sR fun e h=>?_
 simp only [seval,EMW,zero_27,pl_27,sz_27]
 refine mU e (.ret fun e h=>?_) h
 cases h
 simp only [seval,FMW,Tryz.results96,ag_27,sz_27]
 refine .skip (Mir.toK (.seqK (.bind fun y2 hy4=>.region fun e h=>?_)))
 simp only [seval,EMW]
 refine SpecS.by (r45_index_spec hy4) (by simp only [seval,FMW]) ?_
 simp only [seval,EMW]
 refine mU e (.seqK (.sR fun e h=>?_)) h
 simp only [seval,EMW]
 refine mU e (.cond rfl (fun hb6=>?_) (fun hb6=>?_)) h
 refine .sR fun e h=>?_
 simp only [seval,EMW,zero_27,pl_27,sz_27]
 refine mU e (.ret fun e h=>?_) h
 cases h
 simp only [seval,FMW,Tryz.results96,ag_27,sz_27]
 refine .skip (Mir.toK (.seqK (Mir.joinO (fun v1 : ApiPos=>([U,U,.d (.int .i64 a2),.ptr 0 0,U,U,.ptr 1 0,U,U,U,.ptr 2 0] ++ us 46)) (fun v1=>⟨[[.d (.int .i64 a0.Work.e0.X),.d (.int .i64 a0.Work.e0.Y),.d (.int .i64 a0.Work.e0.Z),.d (.int .i64 a0.Work.e1.X),.d (.int .i64 a0.Work.e1.Y),.d (.int .i64 a0.Work.e1.Z),.d (.int .i64 a0.Work.e2.X),.d (.int .i64 a0.Work.e2.Y),.d (.int .i64 a0.Work.e2.Z),.d (.int .i64 a0.Work.e3.X),.d (.int .i64 a0.Work.e3.Y),.d (.int .i64 a0.Work.e3.Z),.d (.int .i64 a0.Work.e4.X),.d (.int .i64 a0.Work.e4.Y),.d (.int .i64 a0.Work.e4.Z),.d (.int .i64 a0.Work.e5.X),.d (.int .i64 a0.Work.e5.Y),.d (.int .i64 a0.Work.e5.Z),.d (.list (List.map encR45Length a0.Lengths))],[.d (.int .i64 0),.d (.int .i64 0),.d (.int .i64 0)],[.d (.int .i64 v1.X),.d (.int .i64 v1.Y),.d (.int .i64 v1.Z)]],[]⟩) (fun _=>rfl) ?_ ?_)))
 refine .guard fun qi7=>.ite (fun hb8=>?_) (fun hb8=>?_)
 refine .region fun e h=>?_
 simp only [seval,EMW,fld_36_0,sz_33,und_33,(eq_of_beq hb8),sz_27,ag_27,zero_27,hb8]
 cases h
 simp only [seval,FMW,hb8]
 refine .ite (fun hb9=>?_) (fun hb9=>?_)
 refine .region fun e h=>?_
 simp only [seval,EMW,fld_36_0,sz_33,und_33,(eq_of_beq hb9),sz_27,ag_27,zero_27,hb8,hb9]
 cases h
 simp only [seval,FMW,hb8,hb9]
 refine .ite (fun hb10=>?_) (fun hb10=>?_)
 refine .region fun e h=>?_
 simp only [seval,EMW,fld_36_0,sz_33,und_33,(eq_of_beq hb10),sz_27,ag_27,zero_27,hb8,hb9,hb10]
 cases h
 simp only [seval,FMW,hb8,hb9,hb10]
 refine .ite (fun hb11=>?_) (fun hb11=>?_)
 refine .region fun e h=>?_
 simp only [seval,EMW,fld_36_0,sz_33,und_33,(eq_of_beq hb11),sz_27,ag_27,zero_27,hb8,hb9,hb10,hb11]
 cases h
 simp only [seval,FMW,hb8,hb9,hb10,hb11]
 refine .ite (fun hb12=>?_) (fun hb12=>?_)
 refine .region fun e h=>?_
 simp only [seval,EMW,fld_36_0,sz_33,und_33,(eq_of_beq hb12),sz_27,ag_27,zero_27,hb8,hb9,hb10,hb11,hb12]
 cases h
 simp only [seval,FMW,hb8,hb9,hb10,hb11,hb12]
 have hz13 : y2 = 5 := by have h0 := of_decide_eq_true qi7; have h1 := ne_of_beq_false hb8; have h2 := ne_of_beq_false hb9; have h3 := ne_of_beq_false hb10; have h4 := ne_of_beq_false hb11; have h5 := ne_of_beq_false hb12; omega
 refine .region fun e h=>?_
 simp only [seval,EMW,fld_36_0,sz_33,und_33,hz13,sz_27,ag_27,zero_27,hb8,hb9,hb10,hb11,hb12]
 cases h
 simp only [seval,FMW,hb8,hb9,hb10,hb11,hb12]
 intro v1
 refine Mir.toK (.seqK (.sR fun e h=>?_))
 simp only [seval,EMW]
 refine mU e (.cond rfl (fun hb15=>?_) (fun hb15=>?_)) h
 refine .sR fun e h=>?_
 simp only [seval,EMW,ag_27,sz_27]
 refine mU e (.ret fun e h=>?_) h
 cases h
 simp only [seval,FMW,Tryz.results96,ag_27,sz_27]
 refine .skip (Mir.toK (.seqK (.sR fun e h=>?_)))
 simp only [seval,EMW]
 refine mU e (Mir.join (fun v3 : Unit=>([U,U,U,U,U,U,.ptr 1 0] ++ us 50)) (fun v3=>⟨[[.d (.int .i64 a0.Work.e0.X),.d (.int .i64 a0.Work.e0.Y),.d (.int .i64 a0.Work.e0.Z),.d (.int .i64 a0.Work.e1.X),.d (.int .i64 a0.Work.e1.Y),.d (.int .i64 a0.Work.e1.Z),.d (.int .i64 a0.Work.e2.X),.d (.int .i64 a0.Work.e2.Y),.d (.int .i64 a0.Work.e2.Z),.d (.int .i64 a0.Work.e3.X),.d (.int .i64 a0.Work.e3.Y),.d (.int .i64 a0.Work.e3.Z),.d (.int .i64 a0.Work.e4.X),.d (.int .i64 a0.Work.e4.Y),.d (.int .i64 a0.Work.e4.Z),.d (.int .i64 a0.Work.e5.X),.d (.int .i64 a0.Work.e5.Y),.d (.int .i64 a0.Work.e5.Z),.d (.list (List.map encR45Length a0.Lengths))],[.d (.int .i64 0),.d (.int .i64 0),.d (.int .i64 0)],[.d (.int .i64 v1.X),.d (.int .i64 v1.Y),.d (.int .i64 v1.Z)]],[]⟩) (fun _=>rfl) ?_ ?_) h
 refine .block (.guard fun qg66=>Mir.range (fun (i1 : Nat) (v2 : Unit)=>([U,U,.d (.int .i64 a2),.ptr 0 0,U,U,.ptr 1 0,U,U,U,.ptr 2 0,.d (.int .i64 (i1 : Int))] ++ us 45)) (fun i1 v2=>⟨[[.d (.int .i64 a0.Work.e0.X),.d (.int .i64 a0.Work.e0.Y),.d (.int .i64 a0.Work.e0.Z),.d (.int .i64 a0.Work.e1.X),.d (.int .i64 a0.Work.e1.Y),.d (.int .i64 a0.Work.e1.Z),.d (.int .i64 a0.Work.e2.X),.d (.int .i64 a0.Work.e2.Y),.d (.int .i64 a0.Work.e2.Z),.d (.int .i64 a0.Work.e3.X),.d (.int .i64 a0.Work.e3.Y),.d (.int .i64 a0.Work.e3.Z),.d (.int .i64 a0.Work.e4.X),.d (.int .i64 a0.Work.e4.Y),.d (.int .i64 a0.Work.e4.Z),.d (.int .i64 a0.Work.e5.X),.d (.int .i64 a0.Work.e5.Y),.d (.int .i64 a0.Work.e5.Z),.d (.list (List.map encR45Length a0.Lengths))],[.d (.int .i64 0),.d (.int .i64 0),.d (.int .i64 0)],[.d (.int .i64 v1.X),.d (.int .i64 v1.Y),.d (.int .i64 v1.Z)]],[]⟩) qg66 (fun _ _=>rfl) (by simp only [seval,FMW,zNI]) (by simp only [seval,FMW,zNI]) ?_ ?_)
 intro i1 e1 v2 qr64
 refine .seqK (.sR fun e h=>?_)
 simp only [seval,EMW,fld_36_1,sz_34,ag_34,und_34,qr64]
 refine mU e (.condT rfl (.skip (Mir.toK (.seqK (.block (.sR fun e h=>?_)))))) h
 simp only [seval,EMW,fld_36_1,sz_34,ag_34,und_34,sz_94,qr64,Int.toNat_natCast,fld_94_0,sz_2,ag_2]
 refine mU e (.cond rfl (fun hb69=>?_) (fun hb69=>?_)) h
 refine .seqK (.regionD [] (by kernel_rfl) fun e h=>?_)
 simp only [seval,EMW,SB,fld_27_2,sz_2,ag_2,fld_36_1,sz_34,ag_34,und_34,sz_94,qr64,Int.toNat_natCast,fld_94_1]
 refine mU e (.sR fun e h=>?_) h
 simp only [seval,EMW,ag_27,sz_27]
 refine mU e (.ret fun e h=>?_) h
 cases h
 simp only [seval,FMW,Tryz.results96,ag_27,sz_27]
 refine .skip (Mir.toB (Mir.toK (.region fun e h=>?_)))
 simp only [seval,EMW]
 cases h
 simp only [seval,FMW,Tryz.results96,ag_27,sz_27,qr64]
 intro v2 qd65
 refine .seqK (.sR fun e h=>?_)
 simp only [seval,EMW,fld_36_1,sz_34,ag_34,und_34,qd65]
 refine mU e (.condF rfl (.exit fun e h=>?_)) h
 cases h
 simp only [seval,FMW,Tryz.results96,ag_27,sz_27]
 intro v3
 refine Mir.toK (.sR fun e h=>?_)
 simp only [seval,EMW,zero_27,pl_27,sz_27]
 refine mU e (.ret fun e h=>?_) h
 cases h
 simp only [seval,FMW,Tryz.results96,ag_27,sz_27]
def r45_move (a0 : R45Table) (a1 : Int) (a2 : Int) (a3 : ApiPos) (a4 : Int) : Option (ApiPos × Int) := bindO (r45_shift a0 a1 a2) fun (y1 : ApiPos × Int)=>if (y1.2 != 0) = true then some (ApiPos.mk 0 0 0,y1.2) else bindO (r45_out a3) fun (y2 : Bool)=>if y2 = true then some (ApiPos.mk 0 0 0,11) else bindO (r45_out (ApiPos.mk (IntKind.i64.wrap (a3.X + (IntKind.i64.wrap (a4 * y1.1.X)))) (IntKind.i64.wrap (a3.Y + (IntKind.i64.wrap (a4 * y1.1.Y)))) (IntKind.i64.wrap (a3.Z + (IntKind.i64.wrap (a4 * y1.1.Z)))))) fun (y3 : Bool)=>if y3 = true then some (ApiPos.mk 0 0 0,11) else some (ApiPos.mk (IntKind.i64.wrap (a3.X + (IntKind.i64.wrap (a4 * y1.1.X)))) (IntKind.i64.wrap (a3.Y + (IntKind.i64.wrap (a4 * y1.1.Y)))) (IntKind.i64.wrap (a3.Z + (IntKind.i64.wrap (a4 * y1.1.Z)))),0)
theorem r45_move_spec {a0 : R45Table} {a1 : Int} {a2 : Int} {a3 : ApiPos} {a4 : Int} {y : ApiPos × Int} (h : r45_move a0 a1 a2 a3 a4 = some y) : Spec gP 75 [.agg [.d (.int .i64 a0.Work.e0.X),.d (.int .i64 a0.Work.e0.Y),.d (.int .i64 a0.Work.e0.Z),.d (.int .i64 a0.Work.e1.X),.d (.int .i64 a0.Work.e1.Y),.d (.int .i64 a0.Work.e1.Z),.d (.int .i64 a0.Work.e2.X),.d (.int .i64 a0.Work.e2.Y),.d (.int .i64 a0.Work.e2.Z),.d (.int .i64 a0.Work.e3.X),.d (.int .i64 a0.Work.e3.Y),.d (.int .i64 a0.Work.e3.Z),.d (.int .i64 a0.Work.e4.X),.d (.int .i64 a0.Work.e4.Y),.d (.int .i64 a0.Work.e4.Z),.d (.int .i64 a0.Work.e5.X),.d (.int .i64 a0.Work.e5.Y),.d (.int .i64 a0.Work.e5.Z),.d (.list (List.map encR45Length a0.Lengths))],.d (.int .i64 a1),.d (.int .i64 a2),.agg [.d (.int .i64 a3.X),.d (.int .i64 a3.Y),.d (.int .i64 a3.Z)],.d (.int .i64 a4)] (.tuple [.agg [.d (.int .i64 y.1.X),.d (.int .i64 y.1.Y),.d (.int .i64 y.1.Z)],.d (.int .i64 y.2)]) := by
 refine spec_mir Tryz.func75 rfl (by kernel_rfl) (by kernel_rfl) (fun y : ApiPos × Int=>.tuple [.agg [.d (.int .i64 y.1.X),.d (.int .i64 y.1.Y),.d (.int .i64 y.1.Z)],.d (.int .i64 y.2)]) ?_ h
 unfold r45_move
 simp only [List.replicate,List.length,nS,nA,Tryz.ntmps75,SV]
 refine .sR fun e h=>?_
 simp only [seval,EMW,zero_27]
 refine mU e (.seqK (.bind fun y1 hy1=>.region fun e h=>?_)) h
 simp only [seval,EMW,ag_36,sz_36]
 refine SpecS.by (r45_shift_spec hy1) (by simp only [seval,FMW]) ?_
 simp only [seval,EMW,zero_27,sz_27]
 refine mU e (.seqK (.sR fun e h=>?_)) h
 simp only [seval,EMW]
 refine mU e (.cond rfl (fun hb3=>?_) (fun hb3=>?_)) h
 refine .sR fun e h=>?_
 simp only [seval,EMW,zero_27,pl_27,sz_27]
 refine mU e (.ret fun e h=>?_) h
 cases h
 simp only [seval,FMW,Tryz.results75,ag_27,sz_27]
 refine .skip (Mir.toK (.seqK (.seqK (.bind fun y2 hy4=>.region fun e h=>?_))))
 simp only [seval,EMW,ag_27,sz_27]
 refine SpecS.by (r45_out_spec hy4) (by simp only [seval,FMW]) ?_
 simp only [seval,EMW]
 refine mU e (.cond rfl (fun hb6=>?_) (fun hb6=>?_)) h
 refine .sR fun e h=>?_
 simp only [seval,EMW,zero_27,pl_27,sz_27]
 refine mU e (.ret fun e h=>?_) h
 cases h
 simp only [seval,FMW,Tryz.results75,ag_27,sz_27]
 refine .skip (Mir.toK (.sR fun e h=>?_))
 simp only [seval,EMW,fld_27_0,sz_2,ag_2,fld_27_1,fld_27_2,zero_27,pl_27,sz_27]
 refine mU e (.seqK (.seqK (.bind fun y3 hy7=>.region fun e h=>?_))) h
 simp only [seval,EMW,ag_27,sz_27]
 refine SpecS.by (r45_out_spec hy7) (by simp only [seval,FMW]) ?_
 simp only [seval,EMW]
 refine mU e (.cond rfl (fun hb9=>?_) (fun hb9=>?_)) h
 refine .sR fun e h=>?_
 simp only [seval,EMW,zero_27,pl_27,sz_27]
 refine mU e (.ret fun e h=>?_) h
 cases h
 simp only [seval,FMW,Tryz.results75,ag_27,sz_27]
 refine .skip (Mir.toK (.sR fun e h=>?_))
 simp only [seval,EMW,ag_27,sz_27]
 refine mU e (.ret fun e h=>?_) h
 cases h
 simp only [seval,FMW,Tryz.results75,ag_27,sz_27]
def r45_Work (a0 : R45Table) (a1 : Int) (a2 : Int) (a3 : ApiPos) : Option (ApiPos × Int) := bindO (r45_move a0 a1 a2 a3 (-1)) fun (y1 : ApiPos × Int)=>some (y1.1,y1.2)
theorem r45_Work_spec {a0 : R45Table} {a1 : Int} {a2 : Int} {a3 : ApiPos} {y : ApiPos × Int} (h : r45_Work a0 a1 a2 a3 = some y) : Spec gP 43 [.agg [.d (.int .i64 a0.Work.e0.X),.d (.int .i64 a0.Work.e0.Y),.d (.int .i64 a0.Work.e0.Z),.d (.int .i64 a0.Work.e1.X),.d (.int .i64 a0.Work.e1.Y),.d (.int .i64 a0.Work.e1.Z),.d (.int .i64 a0.Work.e2.X),.d (.int .i64 a0.Work.e2.Y),.d (.int .i64 a0.Work.e2.Z),.d (.int .i64 a0.Work.e3.X),.d (.int .i64 a0.Work.e3.Y),.d (.int .i64 a0.Work.e3.Z),.d (.int .i64 a0.Work.e4.X),.d (.int .i64 a0.Work.e4.Y),.d (.int .i64 a0.Work.e4.Z),.d (.int .i64 a0.Work.e5.X),.d (.int .i64 a0.Work.e5.Y),.d (.int .i64 a0.Work.e5.Z),.d (.list (List.map encR45Length a0.Lengths))],.d (.int .i64 a1),.d (.int .i64 a2),.agg [.d (.int .i64 a3.X),.d (.int .i64 a3.Y),.d (.int .i64 a3.Z)]] (.tuple [.agg [.d (.int .i64 y.1.X),.d (.int .i64 y.1.Y),.d (.int .i64 y.1.Z)],.d (.int .i64 y.2)]) := by
 refine spec_mir Tryz.func43 rfl (by kernel_rfl) (by kernel_rfl) (fun y : ApiPos × Int=>.tuple [.agg [.d (.int .i64 y.1.X),.d (.int .i64 y.1.Y),.d (.int .i64 y.1.Z)],.d (.int .i64 y.2)]) ?_ h
 unfold r45_Work
 simp only [List.replicate,List.length,nS,nA,Tryz.ntmps43,SV]
 refine .sR fun e h=>?_
 simp only [seval,EMW,zero_27]
 refine mU e (.seqK (.bind fun y1 hy1=>.region fun e h=>?_)) h
 simp only [seval,EMW,ag_36,sz_36,ag_27,sz_27]
 refine SpecS.by (r45_move_spec hy1) (by simp only [seval,FMW]) ?_
 simp only [seval,EMW,sz_27]
 refine mU e (.ret fun e h=>?_) h
 cases h
 simp only [seval,FMW,Tryz.results43,ag_27,sz_27]
def r47_coordinate (a0 : ApiBlock) (a1 : Int) (a2 : Int) (a3 : Int) : Option Int := bindO (r41_Find a0 a1) fun (y1 : Int × Bool)=>if (!y1.2) = true then some a2 else if (a3 == 91000) = true then some (IntKind.i64.wrap (a2 + y1.1)) else some y1.1
theorem r47_coordinate_spec {a0 : ApiBlock} {a1 : Int} {a2 : Int} {a3 : Int} {y : Int} (h : r47_coordinate a0 a1 a2 a3 = some y) : Spec gP 76 [.agg [.d (.bool a0.Skip),.d (.list (List.map encApiWord a0.Words)),.d (.str a0.Comment)],.d (.int .u8 a1),.d (.int .i64 a2),.d (.int .i64 a3)] (.d (.int .i64 y)) := by
 refine spec_mir Tryz.func76 rfl (by kernel_rfl) (by kernel_rfl) (fun y : Int=>.d (.int .i64 y)) ?_ h
 unfold r47_coordinate
 simp only [List.replicate,List.length,nS,nA,Tryz.ntmps76,SV]
 refine .sR fun e h=>?_
 simp only [seval,EMW]
 refine mU e (.seqK (.bind fun y1 hy1=>.region fun e h=>?_)) h
 simp only [seval,EMW,ag_32,sz_32]
 refine SpecS.by (r41_Find_spec hy1) (by simp only [seval,FMW]) ?_
 simp only [seval,EMW]
 refine mU e (.seqK (.sR fun e h=>?_)) h
 simp only [seval,EMW]
 refine mU e (.cond rfl (fun hb3=>?_) (fun hb3=>?_)) h
 refine .sR fun e h=>?_
 simp only [seval,EMW]
 refine mU e (.ret fun e h=>?_) h
 cases h
 simp only [seval,FMW,Tryz.results76]
 refine .skip (Mir.toK (.seqK (.sR fun e h=>?_)))
 simp only [seval,EMW]
 refine mU e (.cond rfl (fun hb5=>?_) (fun hb5=>?_)) h
 refine .sR fun e h=>?_
 simp only [seval,EMW]
 refine mU e (.ret fun e h=>?_) h
 cases h
 simp only [seval,FMW,Tryz.results76]
 refine .skip (Mir.toK (.sR fun e h=>?_))
 simp only [seval,EMW]
 refine mU e (.ret fun e h=>?_) h
 cases h
 simp only [seval,FMW,Tryz.results76]
def r44_value (a0 : ApiBlock) (a1 : Int) (a2 : Int) : Option Int := bindO (r41_Find a0 a1) fun (y1 : Int × Bool)=>if y1.2 = true then some y1.1 else some a2
theorem r44_value_spec {a0 : ApiBlock} {a1 : Int} {a2 : Int} {y : Int} (h : r44_value a0 a1 a2 = some y) : Spec gP 98 [.agg [.d (.bool a0.Skip),.d (.list (List.map encApiWord a0.Words)),.d (.str a0.Comment)],.d (.int .u8 a1),.d (.int .i64 a2)] (.d (.int .i64 y)) := by
 refine spec_mir Tryz.func98 rfl (by kernel_rfl) (by kernel_rfl) (fun y : Int=>.d (.int .i64 y)) ?_ h
 unfold r44_value
 simp only [List.replicate,List.length,nS,nA,Tryz.ntmps98,SV]
 refine .sR fun e h=>?_
 simp only [seval,EMW]
 refine mU e (.seqK (.seqK (.bind fun y1 hy1=>.region fun e h=>?_))) h
 simp only [seval,EMW,ag_32,sz_32]
 refine SpecS.by (r41_Find_spec hy1) (by simp only [seval,FMW]) ?_
 simp only [seval,EMW]
 refine mU e (.sR fun e h=>?_) h
 simp only [seval,EMW]
 refine mU e (.cond rfl (fun hb3=>?_) (fun hb3=>?_)) h
 refine .sR fun e h=>?_
 simp only [seval,EMW]
 refine mU e (.ret fun e h=>?_) h
 cases h
 simp only [seval,FMW,Tryz.results98]
 refine .skip (Mir.toK (.sR fun e h=>?_))
 simp only [seval,EMW]
 refine mU e (.ret fun e h=>?_) h
 cases h
 simp only [seval,FMW,Tryz.results98]
def r44_in (a0 : Int) : Option Bool := some ((decide (a0 ≥ (-10000000))) && (decide (a0 ≤ 10000000)))
theorem r44_in_spec {a0 : Int} {y : Bool} (h : r44_in a0 = some y) : Spec gP 100 [.d (.int .i64 a0)] (.d (.bool y)) := by
 refine spec_mir Tryz.func100 rfl (by kernel_rfl) (by kernel_rfl) (fun y : Bool=>.d (.bool y)) ?_ h
 unfold r44_in
 simp only [List.replicate,List.length,nS,nA,Tryz.ntmps100,SV]
 refine .sR fun e h=>?_
 simp only [seval,EMW]
 refine mU e (.seqK (.joinV ([U,U,.d (.bool ((decide (a0 ≥ (-10000000))) && (decide (a0 ≤ 10000000))))] ++ us 6) ⟨[],[]⟩ rfl ?_ ?_)) h
 refine SWs.region ?_
 rcases Bool.eq_false_or_eq_true (decide (a0 ≥ (-10000000))) with hb1 | hb1
 simp only [seval,EMW,SL,PB,hb1]
 simp only [seval,EMW,SL,PB,hb1]
 refine Mir.toK (.ret fun e h=>?_)
 cases h
 simp only [seval,FMW,Tryz.results100]
def r44_Valid (a0 : R44Cycle) : Option Int := if (if (a0.Code != 81000) = true then if (a0.Code != 82000) = true then !(a0.Code == 83000) || ((decide (a0.Z ≥ a0.R)) || ((decide (a0.R > a0.Initial)) || ((decide (a0.Rate < 1)) || ((decide (a0.Rate > 1000000000000)) || (decide (a0.Q < 1)))))) else (decide (a0.Z ≥ a0.R)) || ((decide (a0.R > a0.Initial)) || ((decide (a0.Rate < 1)) || ((decide (a0.Rate > 1000000000000)) || ((a0.Code == 83000) && (decide (a0.Q < 1)))))) else (decide (a0.Z ≥ a0.R)) || ((decide (a0.R > a0.Initial)) || ((decide (a0.Rate < 1)) || ((decide (a0.Rate > 1000000000000)) || ((a0.Code == 83000) && (decide (a0.Q < 1))))))) = true then some 1 else bindO (bindO (r44_in a0.R) fun (y1 : Bool)=>if y1 = true then bindO (r44_in a0.Z) fun (y2 : Bool)=>if y2 = true then bindO (r44_in a0.Initial) fun (y3 : Bool)=>if y3 = true then if (a0.Code == 83000) = true then bindO (r44_in a0.Q) fun (y4 : Bool)=>some (!y4) else some false else some true else some true else some true) fun (v1 : Bool)=>if v1 = true then some 11 else bindX (if (a0.Code == 83000) = true then loopX (fun (v2 : Int × Int)=>if (decide (v2.2 > a0.Z)) = true then if (decide ((IntKind.i64.wrap (v2.1 + 1)) > 999)) = true then some (.ret (.ret 3)) else some (.go (IntKind.i64.wrap (v2.1 + 1),IntKind.i64.wrap (v2.2 - a0.Q))) else some (.ret (.go ()))) fuel (0,IntKind.i64.wrap (a0.R - a0.Q)) else some (.go ())) fun (v3 : Unit)=>some 0
theorem r44_Valid_spec {a0 : R44Cycle} {y : Int} (h : r44_Valid a0 = some y) : Spec gP 99 [.agg [.d (.int .i64 a0.Code),.d (.int .i64 a0.R),.d (.int .i64 a0.Z),.d (.int .i64 a0.Q),.d (.int .i64 a0.Rate),.d (.int .i64 a0.Initial),.d (.bool a0.High)]] (.d (.int .i64 y)) := by
 refine spec_mir Tryz.func99 rfl (by kernel_rfl) (by kernel_rfl) (fun y : Int=>.d (.int .i64 y)) ?_ h
 unfold r44_Valid
 simp only [List.replicate,List.length,nS,nA,Tryz.ntmps99,SV]
 refine .sR fun e h=>?_
 simp only [seval,EMW]
 refine mU e (.sR fun e h=>?_) h
 simp only [seval,EMW,fld_25_0,sz_2,ag_2]
 refine mU e (.seqK (.seqK (.joinV ([U,.ptr 0 0,U,.d (.bool (a0.Code == 83000)),U,U,U,U,U,U,U,U,U,U,U,U,U,U,U,U,U,U,U,U,U,U,U,U,U,U,U,U,U,U,U,U,U,U,U,U,U,U,U,U,U,U,U,U,U,U,U,U,.d (.bool (if (a0.Code != 81000) = true then if (a0.Code != 82000) = true then !(a0.Code == 83000) || ((decide (a0.Z ≥ a0.R)) || ((decide (a0.R > a0.Initial)) || ((decide (a0.Rate < 1)) || ((decide (a0.Rate > 1000000000000)) || (decide (a0.Q < 1)))))) else (decide (a0.Z ≥ a0.R)) || ((decide (a0.R > a0.Initial)) || ((decide (a0.Rate < 1)) || ((decide (a0.Rate > 1000000000000)) || ((a0.Code == 83000) && (decide (a0.Q < 1)))))) else (decide (a0.Z ≥ a0.R)) || ((decide (a0.R > a0.Initial)) || ((decide (a0.Rate < 1)) || ((decide (a0.Rate > 1000000000000)) || ((a0.Code == 83000) && (decide (a0.Q < 1))))))))] ++ us 43) ⟨[[.d (.int .i64 a0.Code),.d (.int .i64 a0.R),.d (.int .i64 a0.Z),.d (.int .i64 a0.Q),.d (.int .i64 a0.Rate),.d (.int .i64 a0.Initial),.d (.bool a0.High)]],[]⟩ rfl ?_ ?_))) h
 refine SWs.region ?_
 rcases Bool.eq_false_or_eq_true (a0.Code != 81000) with hb1 | hb1
 rcases Bool.eq_false_or_eq_true (a0.Code != 82000) with hb2 | hb2
 rcases Bool.eq_false_or_eq_true (a0.Code == 83000) with hb3 | hb3
 rcases Bool.eq_false_or_eq_true (decide (a0.Z ≥ a0.R)) with hb4 | hb4
 simp only [seval,EMW,SL,PB,fld_25_0,sz_2,ag_2,fld_25_2,fld_25_1,hb1,hb2,hb3,hb4]
 rcases Bool.eq_false_or_eq_true (decide (a0.R > a0.Initial)) with hb5 | hb5
 simp only [seval,EMW,SL,PB,fld_25_0,sz_2,ag_2,fld_25_2,fld_25_1,fld_25_5,hb1,hb2,hb3,hb4,hb5]
 rcases Bool.eq_false_or_eq_true (decide (a0.Rate < 1)) with hb6 | hb6
 simp only [seval,EMW,SL,PB,fld_25_0,sz_2,ag_2,fld_25_2,fld_25_1,fld_25_5,fld_25_4,hb1,hb2,hb3,hb4,hb5,hb6]
 rcases Bool.eq_false_or_eq_true (decide (a0.Rate > 1000000000000)) with hb7 | hb7
 simp only [seval,EMW,SL,PB,fld_25_0,sz_2,ag_2,fld_25_2,fld_25_1,fld_25_5,fld_25_4,hb1,hb2,hb3,hb4,hb5,hb6,hb7]
 simp only [seval,EMW,SL,PB,fld_25_0,sz_2,ag_2,fld_25_2,fld_25_1,fld_25_5,fld_25_4,fld_25_3,hb1,hb2,hb3,hb4,hb5,hb6,hb7]
 simp only [seval,EMW,SL,PB,fld_25_0,sz_2,ag_2,hb1,hb2,hb3]
 rcases Bool.eq_false_or_eq_true (decide (a0.Z ≥ a0.R)) with hb8 | hb8
 simp only [seval,EMW,SL,PB,fld_25_0,sz_2,ag_2,fld_25_2,fld_25_1,hb1,hb2,hb8]
 rcases Bool.eq_false_or_eq_true (decide (a0.R > a0.Initial)) with hb9 | hb9
 simp only [seval,EMW,SL,PB,fld_25_0,sz_2,ag_2,fld_25_2,fld_25_1,fld_25_5,hb1,hb2,hb8,hb9]
 rcases Bool.eq_false_or_eq_true (decide (a0.Rate < 1)) with hb10 | hb10
 simp only [seval,EMW,SL,PB,fld_25_0,sz_2,ag_2,fld_25_2,fld_25_1,fld_25_5,fld_25_4,hb1,hb2,hb8,hb9,hb10]
 rcases Bool.eq_false_or_eq_true (decide (a0.Rate > 1000000000000)) with hb11 | hb11
 simp only [seval,EMW,SL,PB,fld_25_0,sz_2,ag_2,fld_25_2,fld_25_1,fld_25_5,fld_25_4,hb1,hb2,hb8,hb9,hb10,hb11]
 rcases Bool.eq_false_or_eq_true (a0.Code == 83000) with hb12 | hb12
 simp only [seval,EMW,SL,PB,fld_25_0,sz_2,ag_2,fld_25_2,fld_25_1,fld_25_5,fld_25_4,fld_25_3,hb1,hb2,hb8,hb9,hb10,hb11,hb12]
 simp only [seval,EMW,SL,PB,fld_25_0,sz_2,ag_2,fld_25_2,fld_25_1,fld_25_5,fld_25_4,hb1,hb2,hb8,hb9,hb10,hb11,hb12]
 rcases Bool.eq_false_or_eq_true (decide (a0.Z ≥ a0.R)) with hb13 | hb13
 simp only [seval,EMW,SL,PB,fld_25_0,sz_2,ag_2,fld_25_2,fld_25_1,hb1,hb13]
 rcases Bool.eq_false_or_eq_true (decide (a0.R > a0.Initial)) with hb14 | hb14
 simp only [seval,EMW,SL,PB,fld_25_0,sz_2,ag_2,fld_25_2,fld_25_1,fld_25_5,hb1,hb13,hb14]
 rcases Bool.eq_false_or_eq_true (decide (a0.Rate < 1)) with hb15 | hb15
 simp only [seval,EMW,SL,PB,fld_25_0,sz_2,ag_2,fld_25_2,fld_25_1,fld_25_5,fld_25_4,hb1,hb13,hb14,hb15]
 rcases Bool.eq_false_or_eq_true (decide (a0.Rate > 1000000000000)) with hb16 | hb16
 simp only [seval,EMW,SL,PB,fld_25_0,sz_2,ag_2,fld_25_2,fld_25_1,fld_25_5,fld_25_4,hb1,hb13,hb14,hb15,hb16]
 rcases Bool.eq_false_or_eq_true (a0.Code == 83000) with hb17 | hb17
 simp only [seval,EMW,SL,PB,fld_25_0,sz_2,ag_2,fld_25_2,fld_25_1,fld_25_5,fld_25_4,fld_25_3,hb1,hb13,hb14,hb15,hb16,hb17]
 simp only [seval,EMW,SL,PB,fld_25_0,sz_2,ag_2,fld_25_2,fld_25_1,fld_25_5,fld_25_4,hb1,hb13,hb14,hb15,hb16,hb17]
 refine Mir.toK (.cond rfl (fun hb19=>?_) (fun hb19=>?_))
 refine .sR fun e h=>?_
 simp only [seval,EMW]
 refine mU e (.ret fun e h=>?_) h
 cases h
 simp only [seval,FMW,Tryz.results99]
 refine .skip (Mir.toK (.seqK (.seqK (Mir.joinO (fun v1 : Bool=>([U,.ptr 0 0,U,.d (.bool (a0.Code == 83000)),U,U,U,U,U,U,U,U,U,U,U,U,U,U,U,U,U,U,U,U,U,U,U,U,U,U,U,U,U,U,U,U,U,U,U,U,U,U,U,U,U,U,U,U,U,U,U,U,U,U,U,U,U,U,U,U,U,U,U,U,U,U,U,U,U,U,U,U,U,U,U,U,U,.d (.bool v1)] ++ us 18)) (fun v1=>⟨[[.d (.int .i64 a0.Code),.d (.int .i64 a0.R),.d (.int .i64 a0.Z),.d (.int .i64 a0.Q),.d (.int .i64 a0.Rate),.d (.int .i64 a0.Initial),.d (.bool a0.High)]],[]⟩) (fun _=>rfl) ?_ ?_))))
 refine .bind fun y1 hy20=>.ite (fun hb21=>?_) (fun hb21=>?_)
 refine .bind fun y2 hy22=>.ite (fun hb23=>?_) (fun hb23=>?_)
 refine .bind fun y3 hy24=>.ite (fun hb25=>?_) (fun hb25=>?_)
 refine .ite (fun hb26=>?_) (fun hb26=>?_)
 refine .bind fun y4 hy27=>.region fun e h=>?_
 simp only [seval,EMW,fld_25_1,sz_2,ag_2,hb21,hb23,hb25,hb26]
 refine SpecS.by (r44_in_spec hy20) (by simp only [seval,FMW,hb21,hb23,hb25,hb26]) ?_
 simp only [seval,EMW,fld_25_2,sz_2,ag_2,hb21,hb23,hb25,hb26]
 refine SpecS.by (r44_in_spec hy22) (by simp only [seval,FMW,hb21,hb23,hb25,hb26]) ?_
 simp only [seval,EMW,fld_25_5,sz_2,ag_2,hb21,hb23,hb25,hb26]
 refine SpecS.by (r44_in_spec hy24) (by simp only [seval,FMW,hb21,hb23,hb25,hb26]) ?_
 simp only [seval,EMW,fld_25_3,sz_2,ag_2,hb21,hb23,hb25,hb26]
 refine SpecS.by (r44_in_spec hy27) (by simp only [seval,FMW,hb21,hb23,hb25,hb26]) ?_
 simp only [seval,EMW,hb21,hb23,hb25,hb26]
 cases h
 simp only [seval,FMW,hb21,hb23,hb25,hb26]
 refine .region fun e h=>?_
 simp only [seval,EMW,fld_25_1,sz_2,ag_2,hb21,hb23,hb25,hb26]
 refine SpecS.by (r44_in_spec hy20) (by simp only [seval,FMW,hb21,hb23,hb25,hb26]) ?_
 simp only [seval,EMW,fld_25_2,sz_2,ag_2,hb21,hb23,hb25,hb26]
 refine SpecS.by (r44_in_spec hy22) (by simp only [seval,FMW,hb21,hb23,hb25,hb26]) ?_
 simp only [seval,EMW,fld_25_5,sz_2,ag_2,hb21,hb23,hb25,hb26]
 refine SpecS.by (r44_in_spec hy24) (by simp only [seval,FMW,hb21,hb23,hb25,hb26]) ?_
 simp only [seval,EMW,hb21,hb23,hb25,hb26]
 cases h
 simp only [seval,FMW,hb21,hb23,hb25,hb26]
 refine .region fun e h=>?_
 simp only [seval,EMW,fld_25_1,sz_2,ag_2,hb21,hb23,hb25]
 refine SpecS.by (r44_in_spec hy20) (by simp only [seval,FMW,hb21,hb23,hb25]) ?_
 simp only [seval,EMW,fld_25_2,sz_2,ag_2,hb21,hb23,hb25]
 refine SpecS.by (r44_in_spec hy22) (by simp only [seval,FMW,hb21,hb23,hb25]) ?_
 simp only [seval,EMW,fld_25_5,sz_2,ag_2,hb21,hb23,hb25]
 refine SpecS.by (r44_in_spec hy24) (by simp only [seval,FMW,hb21,hb23,hb25]) ?_
 simp only [seval,EMW,hb21,hb23,hb25]
 cases h
 simp only [seval,FMW,hb21,hb23,hb25]
 refine .region fun e h=>?_
 simp only [seval,EMW,fld_25_1,sz_2,ag_2,hb21,hb23]
 refine SpecS.by (r44_in_spec hy20) (by simp only [seval,FMW,hb21,hb23]) ?_
 simp only [seval,EMW,fld_25_2,sz_2,ag_2,hb21,hb23]
 refine SpecS.by (r44_in_spec hy22) (by simp only [seval,FMW,hb21,hb23]) ?_
 simp only [seval,EMW,hb21,hb23]
 cases h
 simp only [seval,FMW,hb21,hb23]
 refine .region fun e h=>?_
 simp only [seval,EMW,fld_25_1,sz_2,ag_2,hb21]
 refine SpecS.by (r44_in_spec hy20) (by simp only [seval,FMW,hb21]) ?_
 simp only [seval,EMW,hb21]
 cases h
 simp only [seval,FMW,hb21]
 intro v1
 refine Mir.toK (.cond rfl (fun hb29=>?_) (fun hb29=>?_))
 refine .sR fun e h=>?_
 simp only [seval,EMW]
 refine mU e (.ret fun e h=>?_) h
 cases h
 simp only [seval,FMW,Tryz.results99]
 refine .skip (Mir.toK (.seqK (.sR fun e h=>?_)))
 simp only [seval,EMW]
 refine mU e (Mir.join (fun v3 : Unit=>(us 96)) (fun v3=>⟨[[.d (.int .i64 a0.Code),.d (.int .i64 a0.R),.d (.int .i64 a0.Z),.d (.int .i64 a0.Q),.d (.int .i64 a0.Rate),.d (.int .i64 a0.Initial),.d (.bool a0.High)]],[]⟩) (fun _=>rfl) ?_ ?_) h
 refine .cond rfl (fun hb43=>?_) (fun hb43=>?_)
 refine .sR fun e h=>?_
 simp only [seval,EMW]
 refine mU e (.sR fun e h=>?_) h
 simp only [seval,EMW,fld_25_1,sz_2,ag_2,fld_25_3]
 refine mU e (.block (Mir.loop (fun v2 : Int × Int=>([U,.ptr 0 0,U,U,.d (.int .i64 v2.1),.d (.int .i64 v2.2)] ++ us 90)) (fun v2=>⟨[[.d (.int .i64 a0.Code),.d (.int .i64 a0.R),.d (.int .i64 a0.Z),.d (.int .i64 a0.Q),.d (.int .i64 a0.Rate),.d (.int .i64 a0.Initial),.d (.bool a0.High)]],[]⟩) (fun _=>rfl) (by simp only [seval,FMW]) (by simp only [seval,FMW]) fun v2=>.seqK (.sR fun e h=>?_))) h
 simp only [seval,EMW,fld_25_2,sz_2,ag_2]
 refine mU e (.cond rfl (fun hb52=>?_) (fun hb52=>?_)) h
 refine .skip (Mir.toK (.seqK (.block (.sR fun e h=>?_))))
 simp only [seval,EMW]
 refine mU e (.sR fun e h=>?_) h
 simp only [seval,EMW]
 refine mU e (.cond rfl (fun hb55=>?_) (fun hb55=>?_)) h
 refine .sR fun e h=>?_
 simp only [seval,EMW]
 refine mU e (.ret fun e h=>?_) h
 cases h
 simp only [seval,FMW,Tryz.results99]
 refine .skip (Mir.toB (Mir.toK (.region fun e h=>?_)))
 simp only [seval,EMW,fld_25_3,sz_2,ag_2]
 cases h
 simp only [seval,FMW,Tryz.results99]
 refine .exit fun e h=>?_
 cases h
 simp only [seval,FMW,Tryz.results99]
 refine .skip fun e h=>?_
 cases h
 simp only [seval,FMW,Tryz.results99]
 intro v3
 refine Mir.toK (.sR fun e h=>?_)
 simp only [seval,EMW]
 refine mU e (.ret fun e h=>?_) h
 cases h
 simp only [seval,FMW,Tryz.results99]
def r44_Read (a0 : ApiBlock) (a1 : Int) (a2 : Int) (a3 : Int) (a4 : Bool) (a5 : R44Cycle) : Option (R44Cycle × Int) := bindO (r44_value a0 82 a5.R) fun (y1 : Int)=>bindO (r44_value a0 90 a5.Z) fun (y2 : Int)=>bindO (r44_value a0 81 a5.Q) fun (y3 : Int)=>bindO (r44_value a0 70 a2) fun (y4 : Int)=>bindO (r44_Valid (R44Cycle.mk a1 y1 y2 y3 y4 a3 a4)) fun (y5 : Int)=>if (y5 != 0) = true then some (R44Cycle.mk 0 0 0 0 0 0 false,y5) else some (R44Cycle.mk a1 y1 y2 y3 y4 a3 a4,0)
theorem r44_Read_spec {a0 : ApiBlock} {a1 : Int} {a2 : Int} {a3 : Int} {a4 : Bool} {a5 : R44Cycle} {y : R44Cycle × Int} (h : r44_Read a0 a1 a2 a3 a4 a5 = some y) : Spec gP 77 [.agg [.d (.bool a0.Skip),.d (.list (List.map encApiWord a0.Words)),.d (.str a0.Comment)],.d (.int .i64 a1),.d (.int .i64 a2),.d (.int .i64 a3),.d (.bool a4),.agg [.d (.int .i64 a5.Code),.d (.int .i64 a5.R),.d (.int .i64 a5.Z),.d (.int .i64 a5.Q),.d (.int .i64 a5.Rate),.d (.int .i64 a5.Initial),.d (.bool a5.High)]] (.tuple [.agg [.d (.int .i64 y.1.Code),.d (.int .i64 y.1.R),.d (.int .i64 y.1.Z),.d (.int .i64 y.1.Q),.d (.int .i64 y.1.Rate),.d (.int .i64 y.1.Initial),.d (.bool y.1.High)],.d (.int .i64 y.2)]) := by
 refine spec_mir Tryz.func77 rfl (by kernel_rfl) (by kernel_rfl) (fun y : R44Cycle × Int=>.tuple [.agg [.d (.int .i64 y.1.Code),.d (.int .i64 y.1.R),.d (.int .i64 y.1.Z),.d (.int .i64 y.1.Q),.d (.int .i64 y.1.Rate),.d (.int .i64 y.1.Initial),.d (.bool y.1.High)],.d (.int .i64 y.2)]) ?_ h
 unfold r44_Read
 simp only [List.replicate,List.length,nS,nA,Tryz.ntmps77,SV]
 refine .sR fun e h=>?_
 simp only [seval,EMW,zero_25]
 refine mU e (.seqK (.bind fun y1 hy1=>.bind fun y2 hy2=>.bind fun y3 hy3=>.bind fun y4 hy4=>.regionD [] (by kernel_rfl) fun e h=>?_)) h
 simp only [seval,EMW,SB,ag_32,sz_32,fld_25_1,sz_2,ag_2]
 refine Spec.by (r44_value_spec hy1) (by simp only [seval,FMW]) ?_
 simp only [seval,EMW,SB,ag_32,sz_32,fld_25_2,sz_2,ag_2]
 refine Spec.by (r44_value_spec hy2) (by simp only [seval,FMW]) ?_
 simp only [seval,EMW,SB,ag_32,sz_32,fld_25_3,sz_2,ag_2]
 refine Spec.by (r44_value_spec hy3) (by simp only [seval,FMW]) ?_
 simp only [seval,EMW,SB,ag_32,sz_32]
 refine Spec.by (r44_value_spec hy4) (by simp only [seval,FMW]) ?_
 simp only [seval,EMW,SB,zero_25,pl_25,sz_25]
 refine mU e (.seqK (.seqK (.bind fun y5 hy5=>.region fun e h=>?_))) h
 simp only [seval,EMW,ag_25,sz_25]
 refine SpecS.by (r44_Valid_spec hy5) (by simp only [seval,FMW]) ?_
 simp only [seval,EMW]
 refine mU e (.sR fun e h=>?_) h
 simp only [seval,EMW]
 refine mU e (.cond rfl (fun hb7=>?_) (fun hb7=>?_)) h
 refine .sR fun e h=>?_
 simp only [seval,EMW,zero_25,pl_25,sz_25]
 refine mU e (.ret fun e h=>?_) h
 cases h
 simp only [seval,FMW,Tryz.results77,ag_25,sz_25]
 refine .skip (Mir.toK (.sR fun e h=>?_))
 simp only [seval,EMW,ag_25,sz_25]
 refine mU e (.ret fun e h=>?_) h
 cases h
 simp only [seval,FMW,Tryz.results77,ag_25,sz_25]
def r44_Depths (a0 : R44Cycle) : Option ((List Int) × Int) := bindO (r44_Valid a0) fun (y1 : Int)=>if (y1 != 0) = true then some ([],y1) else bindO (if (a0.Code == 83000) = true then loopX (fun (v1 : (List Int) × Int)=>if (decide (v1.2 > a0.Z)) = true then guardO (okLen (v1.1.length + 1)) ( some (.go (v1.1 ++ [v1.2],IntKind.i64.wrap (v1.2 - a0.Q)))) else some (.ret v1.1)) fuel ([],IntKind.i64.wrap (a0.R - a0.Q)) else some []) fun (v2 : (List Int))=>guardO (okLen (v2.length + 1)) ( some (v2 ++ [a0.Z],0))
theorem r44_Depths_spec {a0 : R44Cycle} {y : (List Int) × Int} (h : r44_Depths a0 = some y) : Spec gP 125 [.agg [.d (.int .i64 a0.Code),.d (.int .i64 a0.R),.d (.int .i64 a0.Z),.d (.int .i64 a0.Q),.d (.int .i64 a0.Rate),.d (.int .i64 a0.Initial),.d (.bool a0.High)]] (.tuple [.d (.list (List.map (eInt .i64) y.1)),.d (.int .i64 y.2)]) := by
 refine spec_mir Tryz.func125 rfl (by kernel_rfl) (by kernel_rfl) (fun y : (List Int) × Int=>.tuple [.d (.list (List.map (eInt .i64) y.1)),.d (.int .i64 y.2)]) ?_ h
 unfold r44_Depths
 simp only [List.replicate,List.length,nS,nA,Tryz.ntmps125,SV]
 refine .sR fun e h=>?_
 simp only [seval,EMW,eInt]
 refine mU e (.seqK (.seqK (.bind fun y1 hy1=>.region fun e h=>?_))) h
 simp only [seval,EMW,ag_25,sz_25,eInt]
 refine SpecS.by (r44_Valid_spec hy1) (by simp only [seval,FMW,eInt]) ?_
 simp only [seval,EMW,eInt]
 refine mU e (.sR fun e h=>?_) h
 simp only [seval,EMW,eInt]
 refine mU e (.cond rfl (fun hb3=>?_) (fun hb3=>?_)) h
 refine .sR fun e h=>?_
 simp only [seval,EMW]
 refine mU e (.ret fun e h=>?_) h
 cases h
 simp only [seval,FMW,Tryz.results125]
 refine .skip (Mir.toK (.sR fun e h=>?_))
 simp only [seval,EMW,eInt]
 refine mU e (.seqK (.sR fun e h=>?_)) h
 simp only [seval,EMW,fld_25_0,sz_2,ag_2,eInt]
 refine mU e (.gh [.slot 5 2] rfl (Mir.joinO (fun v2 : (List Int)=>([U,.ptr 0 0,U,U,U,.own 0 (List.map (eInt .i64) v2)] ++ us 31)) (fun v2=>⟨[[.d (.int .i64 a0.Code),.d (.int .i64 a0.R),.d (.int .i64 a0.Z),.d (.int .i64 a0.Q),.d (.int .i64 a0.Rate),.d (.int .i64 a0.Initial),.d (.bool a0.High)]],[(2,v2.length)]⟩) (fun _=>rfl) ?_ ?_)) h
 refine .cond rfl (fun hb28=>?_) (fun hb28=>?_)
 refine .sR fun e h=>?_
 simp only [seval,EMW,fld_25_1,sz_2,ag_2,fld_25_3,eInt]
 refine mU e (.block (Mir.loop (fun v1 : (List Int) × Int=>([U,.ptr 0 0,U,U,U,.own 0 (List.map (eInt .i64) v1.1),.d (.int .i64 v1.2)] ++ us 30)) (fun v1=>⟨[[.d (.int .i64 a0.Code),.d (.int .i64 a0.R),.d (.int .i64 a0.Z),.d (.int .i64 a0.Q),.d (.int .i64 a0.Rate),.d (.int .i64 a0.Initial),.d (.bool a0.High)]],[(2,v1.1.length)]⟩) (fun _=>rfl) (by simp only [seval,FMW,eInt]) (by simp only [seval,FMW,eInt]) fun v1=>.seqK (.sR fun e h=>?_))) h
 simp only [seval,EMW,fld_25_2,sz_2,ag_2,eInt]
 refine mU e (.cond rfl (fun hb36=>?_) (fun hb36=>?_)) h
 refine .skip (Mir.toK (.seqK (.block (.guard fun q38=>.region fun e h=>?_))))
 simp only [seval,EMW,und_75,sz_2,zero_2,(oL 1),app_75,al_eInt,q38,eInt]
 refine mU e (.region fun e h=>?_) h
 simp only [seval,EMW,fld_25_3,sz_2,ag_2,eInt]
 cases h
 simp only [seval,FMW,eInt,Tryz.results125]
 refine .exit fun e h=>?_
 cases h
 simp only [seval,FMW,eInt,Tryz.results125]
 refine .skip fun e h=>?_
 cases h
 simp only [seval,FMW,eInt,Tryz.results125]
 intro v2
 refine Mir.toK (.seqK (.guard fun q39=>.region fun e h=>?_))
 simp only [seval,EMW,fld_25_2,sz_2,ag_2,und_75,zero_2,(oL 1),app_75,al_eInt,q39,eInt]
 refine mU e (.ret fun e h=>?_) h
 cases h
 simp only [seval,FMW,eInt,Tryz.results125]
def r44_up (a0 : ApiPos) (a1 : Int) : Option ApiPos := some (ApiPos.mk a0.X a0.Y a1)
theorem r44_up_spec {a0 : ApiPos} {a1 : Int} {y : ApiPos} (h : r44_up a0 a1 = some y) : Spec gP 127 [.agg [.d (.int .i64 a0.X),.d (.int .i64 a0.Y),.d (.int .i64 a0.Z)],.d (.int .i64 a1)] (.agg [.d (.int .i64 y.X),.d (.int .i64 y.Y),.d (.int .i64 y.Z)]) := by
 refine spec_mir Tryz.func127 rfl (by kernel_rfl) (by kernel_rfl) (fun y : ApiPos=>.agg [.d (.int .i64 y.X),.d (.int .i64 y.Y),.d (.int .i64 y.Z)]) ?_ h
 unfold r44_up
 simp only [List.replicate,List.length,nS,nA,Tryz.ntmps127,SV]
 refine .sR fun e h=>?_
 simp only [seval,EMW,zero_27]
 refine mU e (.sR fun e h=>?_) h
 simp only [seval,EMW,fld_27_0,sz_2,ag_2,fld_27_1,zero_27,pl_27,sz_27]
 refine mU e (.ret fun e h=>?_) h
 cases h
 simp only [seval,FMW,Tryz.results127,ag_27,sz_27]
def r44_Expand (a0 : R44Cycle) (a1 : ApiPos) (a2 : (List ApiGrid2)) : Option ((List ApiMove) × Int) := bindO (r44_Valid a0) fun (y1 : Int)=>if (y1 != 0) = true then some ([],y1) else bindO (bindO (r44_in a1.X) fun (y2 : Bool)=>if y2 = true then bindO (r44_in a1.Y) fun (y3 : Bool)=>if y3 = true then bindO (r44_in a1.Z) fun (y4 : Bool)=>some y4 else some false else some false) fun (v1 : Bool)=>bindO (guardO (okIdx a2) ( rangeX (fun (i1 : Nat) (e1 : ApiGrid2) (v2 : Bool)=>bindO (if v2 = true then bindO (r44_in e1.X) fun (y5 : Bool)=>if y5 = true then bindO (r44_in e1.Y) fun (y6 : Bool)=>some y6 else some false else some false) fun (v3 : Bool)=>some (.go v3)) (fun (v2 : Bool)=>some v2) a2 0 v1)) fun (v4 : Bool)=>if (!v4) = true then some ([],11) else bindX (guardO (okIdx a2) ( rangeX (fun (i2 : Nat) (e2 : ApiGrid2) (v5 : R44Path)=>bindO (bindO (r44_Depths (R44Cycle.mk a0.Code a0.R a0.Z a0.Q a0.Rate a0.Initial a0.High)) fun (y7 : (List Int) × Int)=>bindO (r44_up v5.At (mmI true v5.At.Z a0.R)) fun (y8 : ApiPos)=>bindO (if ((v5.At.X == y8.X) && ((v5.At.Y == y8.Y) && (v5.At.Z == y8.Z))) = true then some v5 else guardO (okLen (v5.Moves.length + 1)) ( some (R44Path.mk y8 (v5.Moves ++ [ApiMove.mk 1 y8 (ApiGrid2.mk 0 0) 0])))) fun (v6 : R44Path)=>bindO (if ((v6.At.X == e2.X) && ((v6.At.Y == e2.Y) && (v6.At.Z == v6.At.Z))) = true then some v6 else guardO (okLen (v6.Moves.length + 1)) ( some (R44Path.mk (ApiPos.mk e2.X e2.Y v6.At.Z) (v6.Moves ++ [ApiMove.mk 1 (ApiPos.mk e2.X e2.Y v6.At.Z) (ApiGrid2.mk 0 0) 0])))) fun (v7 : R44Path)=>bindO (r44_up v7.At a0.R) fun (y9 : ApiPos)=>bindO (if ((v7.At.X == y9.X) && ((v7.At.Y == y9.Y) && (v7.At.Z == y9.Z))) = true then some v7 else guardO (okLen (v7.Moves.length + 1)) ( some (R44Path.mk y9 (v7.Moves ++ [ApiMove.mk 1 y9 (ApiGrid2.mk 0 0) 0])))) fun (v8 : R44Path)=>bindO (guardO (okIdx y7.1) ( rangeX (fun (i3 : Nat) (e3 : Int) (v9 : R44Path)=>bindO (r44_up v9.At e3) fun (y10 : ApiPos)=>bindO (if ((v9.At.X == y10.X) && ((v9.At.Y == y10.Y) && (v9.At.Z == y10.Z))) = true then some v9 else bindO (if (decide (a0.Rate > 0)) = true then some 2 else some 1) fun (v10 : Int)=>guardO (okLen (v9.Moves.length + 1)) ( some (R44Path.mk y10 (v9.Moves ++ [ApiMove.mk v10 y10 (ApiGrid2.mk 0 0) a0.Rate])))) fun (v11 : R44Path)=>bindO (r44_up v11.At a0.R) fun (y11 : ApiPos)=>bindO (if ((v11.At.X == y11.X) && ((v11.At.Y == y11.Y) && (v11.At.Z == y11.Z))) = true then some v11 else guardO (okLen (v11.Moves.length + 1)) ( some (R44Path.mk y11 (v11.Moves ++ [ApiMove.mk 1 y11 (ApiGrid2.mk 0 0) 0])))) fun (v12 : R44Path)=>some (.go v12)) (fun (v9 : R44Path)=>some v9) y7.1 0 v8)) fun (v13 : R44Path)=>bindO (if a0.High = true then bindO (r44_up v13.At a0.Initial) fun (y12 : ApiPos)=>bindO (if ((v13.At.X == y12.X) && ((v13.At.Y == y12.Y) && (v13.At.Z == y12.Z))) = true then some v13 else guardO (okLen (v13.Moves.length + 1)) ( some (R44Path.mk y12 (v13.Moves ++ [ApiMove.mk 1 y12 (ApiGrid2.mk 0 0) 0])))) fun (v14 : R44Path)=>some v14 else some v13) fun (v15 : R44Path)=>some v15) fun (v16 : R44Path)=>if (decide ((v16.Moves.length : Int) > 20000)) = true then some (.ret (.ret ([],3))) else some (.go v16)) (fun (v5 : R44Path)=>some (.go v5)) a2 0 (R44Path.mk a1 []))) fun (v17 : R44Path)=>some (v17.Moves,0)
theorem r44_Expand_spec {a0 : R44Cycle} {a1 : ApiPos} {a2 : (List ApiGrid2)} {y : (List ApiMove) × Int} (h : r44_Expand a0 a1 a2 = some y) : Spec gP 78 [.agg [.d (.int .i64 a0.Code),.d (.int .i64 a0.R),.d (.int .i64 a0.Z),.d (.int .i64 a0.Q),.d (.int .i64 a0.Rate),.d (.int .i64 a0.Initial),.d (.bool a0.High)],.agg [.d (.int .i64 a1.X),.d (.int .i64 a1.Y),.d (.int .i64 a1.Z)],.d (.list (List.map encApiGrid2 a2))] (.tuple [.d (.list (List.map encApiMove y.1)),.d (.int .i64 y.2)]) := by
 refine spec_mir Tryz.func78 rfl (by kernel_rfl) (by kernel_rfl) (fun y : (List ApiMove) × Int=>.tuple [.d (.list (List.map encApiMove y.1)),.d (.int .i64 y.2)]) ?_ h
 unfold r44_Expand
 simp only [List.replicate,List.length,nS,nA,Tryz.ntmps78,SV]
 refine .sR fun e h=>?_
 simp only [seval,EMW,eInt]
 refine mU e (.seqK (.seqK (.bind fun y1 hy1=>.region fun e h=>?_))) h
 simp only [seval,EMW,ag_25,sz_25,eInt]
 refine SpecS.by (r44_Valid_spec hy1) (by simp only [seval,FMW,eInt]) ?_
 simp only [seval,EMW,eInt]
 refine mU e (.sR fun e h=>?_) h
 simp only [seval,EMW,eInt]
 refine mU e (.cond rfl (fun hb3=>?_) (fun hb3=>?_)) h
 refine .sR fun e h=>?_
 simp only [seval,EMW]
 refine mU e (.ret fun e h=>?_) h
 cases h
 simp only [seval,FMW,Tryz.results78]
 refine .skip (Mir.toK (.seqK (Mir.joinO (fun v1 : Bool=>([U,U,.d (.list (List.map encApiGrid2 a2)),.ptr 0 0,.ptr 1 0,U,U,U,U,.d (.bool v1)] ++ us 67)) (fun v1=>⟨[[.d (.int .i64 a0.Code),.d (.int .i64 a0.R),.d (.int .i64 a0.Z),.d (.int .i64 a0.Q),.d (.int .i64 a0.Rate),.d (.int .i64 a0.Initial),.d (.bool a0.High)],[.d (.int .i64 a1.X),.d (.int .i64 a1.Y),.d (.int .i64 a1.Z)]],[]⟩) (fun _=>rfl) ?_ ?_)))
 refine .bind fun y2 hy4=>.ite (fun hb5=>?_) (fun hb5=>?_)
 refine .bind fun y3 hy6=>.ite (fun hb7=>?_) (fun hb7=>?_)
 refine .bind fun y4 hy8=>.region fun e h=>?_
 simp only [seval,EMW,fld_27_0,sz_2,ag_2,hb5,hb7]
 refine SpecS.by (r44_in_spec hy4) (by simp only [seval,FMW,hb5,hb7]) ?_
 simp only [seval,EMW,fld_27_1,sz_2,ag_2,hb5,hb7]
 refine SpecS.by (r44_in_spec hy6) (by simp only [seval,FMW,hb5,hb7]) ?_
 simp only [seval,EMW,fld_27_2,sz_2,ag_2,hb5,hb7]
 refine SpecS.by (r44_in_spec hy8) (by simp only [seval,FMW,hb5,hb7]) ?_
 simp only [seval,EMW,hb5,hb7]
 cases h
 simp only [seval,FMW,hb5,hb7]
 refine .region fun e h=>?_
 simp only [seval,EMW,fld_27_0,sz_2,ag_2,hb5,hb7]
 refine SpecS.by (r44_in_spec hy4) (by simp only [seval,FMW,hb5,hb7]) ?_
 simp only [seval,EMW,fld_27_1,sz_2,ag_2,hb5,hb7]
 refine SpecS.by (r44_in_spec hy6) (by simp only [seval,FMW,hb5,hb7]) ?_
 simp only [seval,EMW,hb5,hb7]
 cases h
 simp only [seval,FMW,hb5,hb7]
 refine .region fun e h=>?_
 simp only [seval,EMW,fld_27_0,sz_2,ag_2,hb5]
 refine SpecS.by (r44_in_spec hy4) (by simp only [seval,FMW,hb5]) ?_
 simp only [seval,EMW,hb5]
 cases h
 simp only [seval,FMW,hb5]
 intro v1
 refine Mir.toK (.seqK (.sR fun e h=>?_))
 simp only [seval,EMW,eInt]
 refine mU e (Mir.joinO (fun v4 : Bool=>([U,U,.d (.list (List.map encApiGrid2 a2)),.ptr 0 0,.ptr 1 0,U,U,U,U,.d (.bool v4)] ++ us 67)) (fun v4=>⟨[[.d (.int .i64 a0.Code),.d (.int .i64 a0.R),.d (.int .i64 a0.Z),.d (.int .i64 a0.Q),.d (.int .i64 a0.Rate),.d (.int .i64 a0.Initial),.d (.bool a0.High)],[.d (.int .i64 a1.X),.d (.int .i64 a1.Y),.d (.int .i64 a1.Z)]],[]⟩) (fun _=>rfl) ?_ ?_) h
 refine .block (.guard fun qg94=>Mir.range (fun (i1 : Nat) (v2 : Bool)=>([U,U,.d (.list (List.map encApiGrid2 a2)),.ptr 0 0,.ptr 1 0,U,U,U,U,.d (.bool v2),.d (.int .i64 (i1 : Int))] ++ us 66)) (fun i1 v2=>⟨[[.d (.int .i64 a0.Code),.d (.int .i64 a0.R),.d (.int .i64 a0.Z),.d (.int .i64 a0.Q),.d (.int .i64 a0.Rate),.d (.int .i64 a0.Initial),.d (.bool a0.High)],[.d (.int .i64 a1.X),.d (.int .i64 a1.Y),.d (.int .i64 a1.Z)]],[]⟩) qg94 (fun _ _=>rfl) (by simp only [seval,FMW,zNI]) (by simp only [seval,FMW,zNI]) ?_ ?_)
 intro i1 e1 v2 qr92
 refine .seqK (.sR fun e h=>?_)
 simp only [seval,EMW,und_145,qr92]
 refine mU e (.condT rfl (.skip (Mir.toK (.seqK (.block (Mir.joinO (fun v3 : Bool=>([U,U,.d (.list (List.map encApiGrid2 a2)),.ptr 0 0,.ptr 1 0,U,U,U,U,.d (.bool v3),.d (.int .i64 (i1 : Int))] ++ us 66)) (fun v3=>⟨[[.d (.int .i64 a0.Code),.d (.int .i64 a0.R),.d (.int .i64 a0.Z),.d (.int .i64 a0.Q),.d (.int .i64 a0.Rate),.d (.int .i64 a0.Initial),.d (.bool a0.High)],[.d (.int .i64 a1.X),.d (.int .i64 a1.Y),.d (.int .i64 a1.Z)]],[]⟩) (fun _=>rfl) ?_ ?_)))))) h
 refine .ite (fun hb99=>?_) (fun hb99=>?_)
 refine .bind fun y5 h1=>.ite (fun h2=>?_) (fun h2=>?_)
 refine .bind fun y6 h3=>.region fun e h=>?_
 simp only [seval,EMW,und_145,sz_109,qr92,Int.toNat_natCast,fld_109_0,sz_2,ag_2,hb99,h2]
 refine SpecS.by (r44_in_spec h1) (by simp only [seval,FMW,hb99,h2]) ?_
 simp only [seval,EMW,und_145,sz_109,qr92,Int.toNat_natCast,fld_109_1,sz_2,ag_2,hb99,h2]
 refine SpecS.by (r44_in_spec h3) (by simp only [seval,FMW,hb99,h2]) ?_
 simp only [seval,EMW,hb99,h2]
 cases h
 simp only [seval,FMW,hb99,h2]
 refine .region fun e h=>?_
 simp only [seval,EMW,und_145,sz_109,qr92,Int.toNat_natCast,fld_109_0,sz_2,ag_2,hb99,h2]
 refine SpecS.by (r44_in_spec h1) (by simp only [seval,FMW,hb99,h2]) ?_
 simp only [seval,EMW,hb99,h2]
 cases h
 simp only [seval,FMW,hb99,h2]
 refine .region fun e h=>?_
 simp only [seval,EMW,hb99]
 cases h
 simp only [seval,FMW,hb99]
 intro v3
 refine Mir.toB (Mir.toK (.region fun e h=>?_))
 simp only [seval,EMW]
 cases h
 simp only [seval,FMW,Tryz.results78,qr92]
 intro v2 qd93
 refine .seqK (.sR fun e h=>?_)
 simp only [seval,EMW,und_145,qd93]
 refine mU e (.condF rfl (.exit fun e h=>?_)) h
 cases h
 simp only [seval,FMW,Tryz.results78]
 intro v4
 refine Mir.toK (.seqK (.sR fun e h=>?_))
 simp only [seval,EMW,eInt]
 refine mU e (.cond rfl (fun h4=>?_) (fun h4=>?_)) h
 refine .sR fun e h=>?_
 simp only [seval,EMW]
 refine mU e (.ret fun e h=>?_) h
 cases h
 simp only [seval,FMW,Tryz.results78]
 refine .skip (Mir.toK (.sR fun e h=>?_))
 simp only [seval,EMW,ag_27,sz_27,zero_167,pl_167,sz_167,eInt]
 refine mU e (.seqK (.sR fun e h=>?_)) h
 simp only [seval,EMW,eInt]
 refine mU e (.gh [.cell 2 3 111] rfl (Mir.join (fun v17 : R44Path=>([U,U,U,U,U,U,U,U,U,U,U,.ptr 2 0] ++ us 65)) (fun v17=>⟨[[.d (.int .i64 a0.Code),.d (.int .i64 a0.R),.d (.int .i64 a0.Z),.d (.int .i64 a0.Q),.d (.int .i64 a0.Rate),.d (.int .i64 a0.Initial),.d (.bool a0.High)],[.d (.int .i64 a1.X),.d (.int .i64 a1.Y),.d (.int .i64 a1.Z)],[.d (.int .i64 v17.At.X),.d (.int .i64 v17.At.Y),.d (.int .i64 v17.At.Z),.own 0 (List.map encApiMove v17.Moves)]],[(111,v17.Moves.length)]⟩) (fun _=>rfl) ?_ ?_)) h
 refine .block (.guard fun q1=>Mir.range (fun (i2 : Nat) (v5 : R44Path)=>([U,U,.d (.list (List.map encApiGrid2 a2)),.ptr 0 0,U,U,U,U,U,U,U,.ptr 2 0,.d (.int .i64 (i2 : Int))] ++ us 64)) (fun i2 v5=>⟨[[.d (.int .i64 a0.Code),.d (.int .i64 a0.R),.d (.int .i64 a0.Z),.d (.int .i64 a0.Q),.d (.int .i64 a0.Rate),.d (.int .i64 a0.Initial),.d (.bool a0.High)],[.d (.int .i64 a1.X),.d (.int .i64 a1.Y),.d (.int .i64 a1.Z)],[.d (.int .i64 v5.At.X),.d (.int .i64 v5.At.Y),.d (.int .i64 v5.At.Z),.own 0 (List.map encApiMove v5.Moves)]],[(111,v5.Moves.length)]⟩) q1 (fun _ _=>rfl) (by simp only [seval,FMW,eInt,zNI]) (by simp only [seval,FMW,eInt,zNI]) ?_ ?_)
 intro i2 e2 v5 q2
 refine .seqK (.sR fun e h=>?_)
 simp only [seval,EMW,und_145,q2,eInt]
 refine mU e (.condT rfl (.skip (Mir.toK (.seqK (.block (.seqK (.bind fun v16 h5=>.regionT 6 [] (by kernel_rfl) fun e h=>?_))))))) h
 simp only [seval,EMW,w_none,w_eq,SB,ag_25,sz_25,ag_167,sz_167,und_145,sz_109,q2,Int.toNat_natCast,ag_109,eInt]
 refine regW.of ?_
 simp only [seval,EMW,w_none,w_eq,eInt]
 refine SpecS.inl Tryz.func101 rfl (by kernel_rfl) (by kernel_rfl) (fun v16 : R44Path=>.agg [.d (.int .i64 v16.At.X),.d (.int .i64 v16.At.Y),.d (.int .i64 v16.At.Z),.own 0 (List.map encApiMove v16.Moves)]) (fun v16=>⟨[[.d (.int .i64 a0.Code),.d (.int .i64 a0.R),.d (.int .i64 a0.Z),.d (.int .i64 a0.Q),.d (.int .i64 a0.Rate),.d (.int .i64 a0.Initial),.d (.bool a0.High)],[.d (.int .i64 a1.X),.d (.int .i64 a1.Y),.d (.int .i64 a1.Z)],[.d (.int .i64 v5.At.X),.d (.int .i64 v5.At.Y),.d (.int .i64 v5.At.Z),.own 0 (List.map encApiMove v5.Moves)]],[(111,v16.Moves.length)]⟩) h5 rfl ?_ ?_
 simp only [List.replicate,List.length,nS,nA,Tryz.ntmps101,SV]
 refine .sR fun e h=>?_
 simp only [seval,EMW,zero_167,eInt]
 refine mU e (.seqK (.bind fun y7 h6=>.region fun e h=>?_)) h
 simp only [seval,EMW,ag_25,sz_25,eInt]
 refine SpecS.by (r44_Depths_spec h6) (by simp only [seval,FMW,eInt]) ?_
 simp only [seval,EMW,eInt]
 refine mU e (.seqK (.bind fun y8 h7=>.bind fun v6 h8=>.regionT 10 [] (by kernel_rfl) fun e h=>?_)) h
 simp only [seval,EMW,w_none,w_eq,SB,ag_167,sz_167,fld_167_0,sz_27,ag_27,fld_27_2,sz_2,ag_2,fld_25_1,eInt]
 refine Spec.by (r44_up_spec h7) (by simp only [seval,FMW,eInt]) ?_
 simp only [seval,EMW,w_none,w_eq,SB,eInt]
 refine regW.of ?_
 simp only [seval,EMW,w_none,w_eq,eInt]
 refine SpecS.inl Tryz.func126 rfl (by kernel_rfl) (by kernel_rfl) (fun v6 : R44Path=>.agg [.d (.int .i64 v6.At.X),.d (.int .i64 v6.At.Y),.d (.int .i64 v6.At.Z),.own 0 (List.map encApiMove v6.Moves)]) (fun v6=>⟨[[.d (.int .i64 a0.Code),.d (.int .i64 a0.R),.d (.int .i64 a0.Z),.d (.int .i64 a0.Q),.d (.int .i64 a0.Rate),.d (.int .i64 a0.Initial),.d (.bool a0.High)],[.d (.int .i64 a1.X),.d (.int .i64 a1.Y),.d (.int .i64 a1.Z)],[.d (.int .i64 v5.At.X),.d (.int .i64 v5.At.Y),.d (.int .i64 v5.At.Z),.own 0 (List.map encApiMove v5.Moves)],[.d (.int .i64 a0.Code),.d (.int .i64 a0.R),.d (.int .i64 a0.Z),.d (.int .i64 a0.Q),.d (.int .i64 a0.Rate),.d (.int .i64 a0.Initial),.d (.bool a0.High)],[.d (.int .i64 v5.At.X),.d (.int .i64 v5.At.Y),.d (.int .i64 v5.At.Z),.own 0 (List.map encApiMove v5.Moves)],[.d (.int .i64 e2.X),.d (.int .i64 e2.Y)],[.d (.int .i64 0),.d (.int .i64 0),.d (.int .i64 0),.nil]],[(111,v6.Moves.length)]⟩) h8 rfl ?_ ?_
 simp only [List.replicate,List.length,nS,nA,Tryz.ntmps126,SV]
 refine .sR fun e h=>?_
 simp only [seval,EMW,zero_167,eInt]
 refine mU e (.seqK (.sR fun e h=>?_)) h
 simp only [seval,EMW,fld_167_0,sz_27,ag_27,gE_27,eInt]
 refine mU e (.cond rfl (fun h9=>?_) (fun h9=>?_)) h
 refine .sR fun e h=>?_
 simp only [seval,EMW,ag_167,sz_167,eInt]
 refine mU e (.ret fun e h=>?_) h
 cases h
 simp only [seval,FMW,eInt,Tryz.results126,ag_167,sz_167]
 refine .skip (Mir.toK (.sR fun e h=>?_))
 simp only [seval,EMW,eInt]
 refine mU e (.seqK (.sR fun e h=>?_)) h
 simp only [seval,EMW,(nr rfl : (decide ((0 : Int) > 0)) = false),eInt]
 refine mU e (.condF rfl (.skip (Mir.toK (.seqK (.guard fun q3=>.regionD [] (by kernel_rfl) fun e h=>?_))))) h
 simp only [seval,EMW,SB,ag_27,sz_27,fld_167_1,sz_102,ag_102,zero_111,pl_111,und_102,sz_111,(oL 7),app_102,al_ApiMove,q3,zero_167,pl_167,sz_167,eInt]
 refine mU e (.ret fun e h=>?_) h
 cases h
 simp only [seval,FMW,eInt,Tryz.results126,ag_167,sz_167]
 simp only [seval,EMW,w_none,w_eq,sz_167,eInt]
 refine mU e (.seqK (.bind fun v7 h10=>.region fun e h=>?_)) h
 simp only [seval,EMW,ag_167,sz_167,fld_109_0,sz_2,ag_2,fld_109_1,fld_167_0,sz_27,fld_27_2,zero_27,pl_27,eInt]
 refine SpecS.inl Tryz.func126 rfl (by kernel_rfl) (by kernel_rfl) (fun v7 : R44Path=>.agg [.d (.int .i64 v7.At.X),.d (.int .i64 v7.At.Y),.d (.int .i64 v7.At.Z),.own 0 (List.map encApiMove v7.Moves)]) (fun v7=>⟨[[.d (.int .i64 a0.Code),.d (.int .i64 a0.R),.d (.int .i64 a0.Z),.d (.int .i64 a0.Q),.d (.int .i64 a0.Rate),.d (.int .i64 a0.Initial),.d (.bool a0.High)],[.d (.int .i64 a1.X),.d (.int .i64 a1.Y),.d (.int .i64 a1.Z)],[.d (.int .i64 v5.At.X),.d (.int .i64 v5.At.Y),.d (.int .i64 v5.At.Z),.own 0 (List.map encApiMove v5.Moves)],[.d (.int .i64 a0.Code),.d (.int .i64 a0.R),.d (.int .i64 a0.Z),.d (.int .i64 a0.Q),.d (.int .i64 a0.Rate),.d (.int .i64 a0.Initial),.d (.bool a0.High)],[.d (.int .i64 v6.At.X),.d (.int .i64 v6.At.Y),.d (.int .i64 v6.At.Z),.own 0 (List.map encApiMove v6.Moves)],[.d (.int .i64 e2.X),.d (.int .i64 e2.Y)],[.d (.int .i64 0),.d (.int .i64 0),.d (.int .i64 0),.nil]],[(111,v7.Moves.length)]⟩) h10 rfl ?_ ?_
 simp only [List.replicate,List.length,nS,nA,Tryz.ntmps126,SV]
 refine .sR fun e h=>?_
 simp only [seval,EMW,zero_167,eInt]
 refine mU e (.seqK (.sR fun e h=>?_)) h
 simp only [seval,EMW,fld_167_0,sz_27,ag_27,gE_27,eInt]
 refine mU e (.cond rfl (fun h11=>?_) (fun h11=>?_)) h
 refine .sR fun e h=>?_
 simp only [seval,EMW,ag_167,sz_167,eInt]
 refine mU e (.ret fun e h=>?_) h
 cases h
 simp only [seval,FMW,eInt,Tryz.results126,ag_167,sz_167]
 refine .skip (Mir.toK (.sR fun e h=>?_))
 simp only [seval,EMW,eInt]
 refine mU e (.seqK (.sR fun e h=>?_)) h
 simp only [seval,EMW,(nr rfl : (decide ((0 : Int) > 0)) = false),eInt]
 refine mU e (.condF rfl (.skip (Mir.toK (.seqK (.guard fun q4=>.regionD [] (by kernel_rfl) fun e h=>?_))))) h
 simp only [seval,EMW,SB,ag_27,sz_27,fld_167_1,sz_102,ag_102,zero_111,pl_111,und_102,sz_111,(oL 7),app_102,al_ApiMove,q4,zero_167,pl_167,sz_167,eInt]
 refine mU e (.ret fun e h=>?_) h
 cases h
 simp only [seval,FMW,eInt,Tryz.results126,ag_167,sz_167]
 simp only [seval,EMW,sz_167,eInt]
 refine mU e (.seqK (.bind fun y9 h12=>.bind fun v8 h13=>.regionT 6 [] (by kernel_rfl) fun e h=>?_)) h
 simp only [seval,EMW,w_none,w_eq,SB,ag_167,sz_167,fld_167_0,sz_27,ag_27,fld_25_1,sz_2,ag_2,eInt]
 refine Spec.by (r44_up_spec h12) (by simp only [seval,FMW,eInt]) ?_
 simp only [seval,EMW,w_none,w_eq,SB,eInt]
 refine regW.of ?_
 simp only [seval,EMW,w_none,w_eq,eInt]
 refine SpecS.inl Tryz.func126 rfl (by kernel_rfl) (by kernel_rfl) (fun v8 : R44Path=>.agg [.d (.int .i64 v8.At.X),.d (.int .i64 v8.At.Y),.d (.int .i64 v8.At.Z),.own 0 (List.map encApiMove v8.Moves)]) (fun v8=>⟨[[.d (.int .i64 a0.Code),.d (.int .i64 a0.R),.d (.int .i64 a0.Z),.d (.int .i64 a0.Q),.d (.int .i64 a0.Rate),.d (.int .i64 a0.Initial),.d (.bool a0.High)],[.d (.int .i64 a1.X),.d (.int .i64 a1.Y),.d (.int .i64 a1.Z)],[.d (.int .i64 v5.At.X),.d (.int .i64 v5.At.Y),.d (.int .i64 v5.At.Z),.own 0 (List.map encApiMove v5.Moves)],[.d (.int .i64 a0.Code),.d (.int .i64 a0.R),.d (.int .i64 a0.Z),.d (.int .i64 a0.Q),.d (.int .i64 a0.Rate),.d (.int .i64 a0.Initial),.d (.bool a0.High)],[.d (.int .i64 v7.At.X),.d (.int .i64 v7.At.Y),.d (.int .i64 v7.At.Z),.own 0 (List.map encApiMove v7.Moves)],[.d (.int .i64 e2.X),.d (.int .i64 e2.Y)],[.d (.int .i64 0),.d (.int .i64 0),.d (.int .i64 0),.nil]],[(111,v8.Moves.length)]⟩) h13 rfl ?_ ?_
 simp only [List.replicate,List.length,nS,nA,Tryz.ntmps126,SV]
 refine .sR fun e h=>?_
 simp only [seval,EMW,zero_167,eInt]
 refine mU e (.seqK (.sR fun e h=>?_)) h
 simp only [seval,EMW,fld_167_0,sz_27,ag_27,gE_27,eInt]
 refine mU e (.cond rfl (fun h14=>?_) (fun h14=>?_)) h
 refine .sR fun e h=>?_
 simp only [seval,EMW,ag_167,sz_167,eInt]
 refine mU e (.ret fun e h=>?_) h
 cases h
 simp only [seval,FMW,eInt,Tryz.results126,ag_167,sz_167]
 refine .skip (Mir.toK (.sR fun e h=>?_))
 simp only [seval,EMW,eInt]
 refine mU e (.seqK (.sR fun e h=>?_)) h
 simp only [seval,EMW,(nr rfl : (decide ((0 : Int) > 0)) = false),eInt]
 refine mU e (.condF rfl (.skip (Mir.toK (.seqK (.guard fun q5=>.regionD [] (by kernel_rfl) fun e h=>?_))))) h
 simp only [seval,EMW,SB,ag_27,sz_27,fld_167_1,sz_102,ag_102,zero_111,pl_111,und_102,sz_111,(oL 7),app_102,al_ApiMove,q5,zero_167,pl_167,sz_167,eInt]
 refine mU e (.ret fun e h=>?_) h
 cases h
 simp only [seval,FMW,eInt,Tryz.results126,ag_167,sz_167]
 simp only [seval,EMW,w_none,w_eq,sz_167,eInt]
 refine mU e (.seqK (.sR fun e h=>?_)) h
 simp only [seval,EMW,eInt]
 refine mU e (.gh [.cell 6 3 111] rfl (Mir.joinO (fun v13 : R44Path=>([U,U,U,.ptr 3 0,.ptr 4 0,U,.ptr 6 0] ++ us 70)) (fun v13=>⟨[[.d (.int .i64 a0.Code),.d (.int .i64 a0.R),.d (.int .i64 a0.Z),.d (.int .i64 a0.Q),.d (.int .i64 a0.Rate),.d (.int .i64 a0.Initial),.d (.bool a0.High)],[.d (.int .i64 a1.X),.d (.int .i64 a1.Y),.d (.int .i64 a1.Z)],[.d (.int .i64 v5.At.X),.d (.int .i64 v5.At.Y),.d (.int .i64 v5.At.Z),.own 0 (List.map encApiMove v5.Moves)],[.d (.int .i64 a0.Code),.d (.int .i64 a0.R),.d (.int .i64 a0.Z),.d (.int .i64 a0.Q),.d (.int .i64 a0.Rate),.d (.int .i64 a0.Initial),.d (.bool a0.High)],[.d (.int .i64 v13.At.X),.d (.int .i64 v13.At.Y),.d (.int .i64 v13.At.Z),.own 0 (List.map encApiMove v13.Moves)],[.d (.int .i64 e2.X),.d (.int .i64 e2.Y)],[.d (.int .i64 0),.d (.int .i64 0),.d (.int .i64 0),.own 1 (List.map encApiMove [])]],[(111,v13.Moves.length),(111,0)]⟩) (fun _=>rfl) ?_ ?_)) h
 refine .block (.guard fun q6=>Mir.range (fun (i3 : Nat) (v9 : R44Path)=>([U,U,U,.ptr 3 0,.ptr 4 0,U,.ptr 6 0,.d (.list (List.map (eInt .i64) y7.1)),U,.d (.int .i64 (i3 : Int))] ++ us 67)) (fun i3 v9=>⟨[[.d (.int .i64 a0.Code),.d (.int .i64 a0.R),.d (.int .i64 a0.Z),.d (.int .i64 a0.Q),.d (.int .i64 a0.Rate),.d (.int .i64 a0.Initial),.d (.bool a0.High)],[.d (.int .i64 a1.X),.d (.int .i64 a1.Y),.d (.int .i64 a1.Z)],[.d (.int .i64 v5.At.X),.d (.int .i64 v5.At.Y),.d (.int .i64 v5.At.Z),.own 0 (List.map encApiMove v5.Moves)],[.d (.int .i64 a0.Code),.d (.int .i64 a0.R),.d (.int .i64 a0.Z),.d (.int .i64 a0.Q),.d (.int .i64 a0.Rate),.d (.int .i64 a0.Initial),.d (.bool a0.High)],[.d (.int .i64 v9.At.X),.d (.int .i64 v9.At.Y),.d (.int .i64 v9.At.Z),.own 0 (List.map encApiMove v9.Moves)],[.d (.int .i64 e2.X),.d (.int .i64 e2.Y)],[.d (.int .i64 0),.d (.int .i64 0),.d (.int .i64 0),.own 1 (List.map encApiMove [])]],[(111,v9.Moves.length),(111,0)]⟩) q6 (fun _ _=>rfl) (by simp only [seval,FMW,eInt,zNI]) (by simp only [seval,FMW,eInt,zNI]) ?_ ?_)
 intro i3 e3 v9 q7
 refine .seqK (.sR fun e h=>?_)
 simp only [seval,EMW,und_75,q7,eInt]
 refine mU e (.condT rfl (.skip (Mir.toK (.seqK (.block (.seqK (.bind fun y10 h15=>.bind fun v11 h16=>.regionT 10 [] (by kernel_rfl) fun e h=>?_))))))) h
 simp only [seval,EMW,w_none,w_eq,SB,ag_167,sz_167,fld_167_0,sz_27,ag_27,und_75,sz_2,q7,Int.toNat_natCast,ag_2,eInt]
 refine Spec.by (r44_up_spec h15) (by simp only [seval,FMW,eInt]) ?_
 simp only [seval,EMW,w_none,w_eq,SB,fld_25_4,sz_2,ag_2,eInt]
 refine regW.of ?_
 simp only [seval,EMW,w_none,w_eq,eInt]
 refine SpecS.inl Tryz.func126 rfl (by kernel_rfl) (by kernel_rfl) (fun v11 : R44Path=>.agg [.d (.int .i64 v11.At.X),.d (.int .i64 v11.At.Y),.d (.int .i64 v11.At.Z),.own 0 (List.map encApiMove v11.Moves)]) (fun v11=>⟨[[.d (.int .i64 a0.Code),.d (.int .i64 a0.R),.d (.int .i64 a0.Z),.d (.int .i64 a0.Q),.d (.int .i64 a0.Rate),.d (.int .i64 a0.Initial),.d (.bool a0.High)],[.d (.int .i64 a1.X),.d (.int .i64 a1.Y),.d (.int .i64 a1.Z)],[.d (.int .i64 v5.At.X),.d (.int .i64 v5.At.Y),.d (.int .i64 v5.At.Z),.own 0 (List.map encApiMove v5.Moves)],[.d (.int .i64 a0.Code),.d (.int .i64 a0.R),.d (.int .i64 a0.Z),.d (.int .i64 a0.Q),.d (.int .i64 a0.Rate),.d (.int .i64 a0.Initial),.d (.bool a0.High)],[.d (.int .i64 v9.At.X),.d (.int .i64 v9.At.Y),.d (.int .i64 v9.At.Z),.own 0 (List.map encApiMove v9.Moves)],[.d (.int .i64 e2.X),.d (.int .i64 e2.Y)],[.d (.int .i64 0),.d (.int .i64 0),.d (.int .i64 0),.own 1 (List.map encApiMove [])]],[(111,v11.Moves.length),(111,0)]⟩) h16 rfl ?_ ?_
 simp only [List.replicate,List.length,nS,nA,Tryz.ntmps126,SV]
 refine .sR fun e h=>?_
 simp only [seval,EMW,zero_167,eInt]
 refine mU e (.seqK (.sR fun e h=>?_)) h
 simp only [seval,EMW,fld_167_0,sz_27,ag_27,gE_27,eInt]
 refine mU e (.cond rfl (fun h17=>?_) (fun h17=>?_)) h
 refine .sR fun e h=>?_
 simp only [seval,EMW,ag_167,sz_167,eInt]
 refine mU e (.ret fun e h=>?_) h
 cases h
 simp only [seval,FMW,eInt,Tryz.results126,ag_167,sz_167]
 refine .skip (Mir.toK (.sR fun e h=>?_))
 simp only [seval,EMW,eInt]
 refine mU e (.seqK (.sR fun e h=>?_)) h
 simp only [seval,EMW,eInt]
 refine mU e (Mir.joinO (fun v10 : Int=>([U,U,.d (.int .i64 a0.Rate),.ptr 7 0,.ptr 8 0,U,.ptr 9 0,.d (.int .i64 v10)] ++ us 17)) (fun v10=>⟨[[.d (.int .i64 a0.Code),.d (.int .i64 a0.R),.d (.int .i64 a0.Z),.d (.int .i64 a0.Q),.d (.int .i64 a0.Rate),.d (.int .i64 a0.Initial),.d (.bool a0.High)],[.d (.int .i64 a1.X),.d (.int .i64 a1.Y),.d (.int .i64 a1.Z)],[.d (.int .i64 v5.At.X),.d (.int .i64 v5.At.Y),.d (.int .i64 v5.At.Z),.own 0 (List.map encApiMove v5.Moves)],[.d (.int .i64 a0.Code),.d (.int .i64 a0.R),.d (.int .i64 a0.Z),.d (.int .i64 a0.Q),.d (.int .i64 a0.Rate),.d (.int .i64 a0.Initial),.d (.bool a0.High)],[.d (.int .i64 v9.At.X),.d (.int .i64 v9.At.Y),.d (.int .i64 v9.At.Z),.own 0 (List.map encApiMove v9.Moves)],[.d (.int .i64 e2.X),.d (.int .i64 e2.Y)],[.d (.int .i64 0),.d (.int .i64 0),.d (.int .i64 0),.own 1 (List.map encApiMove [])],[.d (.int .i64 v9.At.X),.d (.int .i64 v9.At.Y),.d (.int .i64 v9.At.Z),.own 0 (List.map encApiMove v9.Moves)],[.d (.int .i64 y10.X),.d (.int .i64 y10.Y),.d (.int .i64 y10.Z)],[.d (.int .i64 0),.d (.int .i64 0),.d (.int .i64 0),.nil]],[(111,v9.Moves.length),(111,0)]⟩) (fun _=>rfl) ?_ ?_) h
 refine .cond rfl (fun h18=>?_) (fun h18=>?_)
 refine .region fun e h=>?_
 simp only [seval,EMW,eInt]
 cases h
 simp only [seval,FMW,eInt,Tryz.results126,ag_167,sz_167]
 refine .skip fun e h=>?_
 cases h
 simp only [seval,FMW,eInt,Tryz.results126,ag_167,sz_167]
 intro v10
 refine Mir.toK (.seqK (.guard fun q8=>.regionD [] (by kernel_rfl) fun e h=>?_))
 simp only [seval,EMW,SB,ag_27,sz_27,fld_167_1,sz_102,ag_102,zero_111,pl_111,und_102,sz_111,(oL 7),app_102,al_ApiMove,q8,zero_167,pl_167,sz_167,eInt]
 refine mU e (.ret fun e h=>?_) h
 cases h
 simp only [seval,FMW,eInt,Tryz.results126,ag_167,sz_167]
 simp only [seval,EMW,w_none,w_eq,sz_167,eInt]
 refine mU e (.bind fun y11 h19=>.bind fun v12 h20=>.regionT 6 [] (by kernel_rfl) fun e h=>?_) h
 simp only [seval,EMW,w_none,w_eq,SB,ag_167,sz_167,fld_167_0,sz_27,ag_27,fld_25_1,sz_2,ag_2,eInt]
 refine Spec.by (r44_up_spec h19) (by simp only [seval,FMW,eInt]) ?_
 simp only [seval,EMW,w_none,w_eq,SB,eInt]
 refine regW.of ?_
 simp only [seval,EMW,w_none,w_eq,eInt]
 refine SpecS.inl Tryz.func126 rfl (by kernel_rfl) (by kernel_rfl) (fun v12 : R44Path=>.agg [.d (.int .i64 v12.At.X),.d (.int .i64 v12.At.Y),.d (.int .i64 v12.At.Z),.own 0 (List.map encApiMove v12.Moves)]) (fun v12=>⟨[[.d (.int .i64 a0.Code),.d (.int .i64 a0.R),.d (.int .i64 a0.Z),.d (.int .i64 a0.Q),.d (.int .i64 a0.Rate),.d (.int .i64 a0.Initial),.d (.bool a0.High)],[.d (.int .i64 a1.X),.d (.int .i64 a1.Y),.d (.int .i64 a1.Z)],[.d (.int .i64 v5.At.X),.d (.int .i64 v5.At.Y),.d (.int .i64 v5.At.Z),.own 0 (List.map encApiMove v5.Moves)],[.d (.int .i64 a0.Code),.d (.int .i64 a0.R),.d (.int .i64 a0.Z),.d (.int .i64 a0.Q),.d (.int .i64 a0.Rate),.d (.int .i64 a0.Initial),.d (.bool a0.High)],[.d (.int .i64 v11.At.X),.d (.int .i64 v11.At.Y),.d (.int .i64 v11.At.Z),.own 0 (List.map encApiMove v11.Moves)],[.d (.int .i64 e2.X),.d (.int .i64 e2.Y)],[.d (.int .i64 0),.d (.int .i64 0),.d (.int .i64 0),.own 1 (List.map encApiMove [])]],[(111,v12.Moves.length),(111,0)]⟩) h20 rfl ?_ ?_
 simp only [List.replicate,List.length,nS,nA,Tryz.ntmps126,SV]
 refine .sR fun e h=>?_
 simp only [seval,EMW,zero_167,eInt]
 refine mU e (.seqK (.sR fun e h=>?_)) h
 simp only [seval,EMW,fld_167_0,sz_27,ag_27,gE_27,eInt]
 refine mU e (.cond rfl (fun h21=>?_) (fun h21=>?_)) h
 refine .sR fun e h=>?_
 simp only [seval,EMW,ag_167,sz_167,eInt]
 refine mU e (.ret fun e h=>?_) h
 cases h
 simp only [seval,FMW,eInt,Tryz.results126,ag_167,sz_167]
 refine .skip (Mir.toK (.sR fun e h=>?_))
 simp only [seval,EMW,eInt]
 refine mU e (.seqK (.sR fun e h=>?_)) h
 simp only [seval,EMW,(nr rfl : (decide ((0 : Int) > 0)) = false),eInt]
 refine mU e (.condF rfl (.skip (Mir.toK (.seqK (.guard fun q9=>.regionD [] (by kernel_rfl) fun e h=>?_))))) h
 simp only [seval,EMW,SB,ag_27,sz_27,fld_167_1,sz_102,ag_102,zero_111,pl_111,und_102,sz_111,(oL 7),app_102,al_ApiMove,q9,zero_167,pl_167,sz_167,eInt]
 refine mU e (.ret fun e h=>?_) h
 cases h
 simp only [seval,FMW,eInt,Tryz.results126,ag_167,sz_167]
 simp only [seval,EMW,w_none,w_eq,sz_167,eInt]
 refine mU e (.region fun e h=>?_) h
 simp only [seval,EMW,eInt]
 cases h
 simp only [seval,FMW,eInt,Tryz.results101,ag_167,sz_167,q7]
 intro v9 q10
 refine .seqK (.sR fun e h=>?_)
 simp only [seval,EMW,und_75,q10,eInt]
 refine mU e (.condF rfl (.exit fun e h=>?_)) h
 cases h
 simp only [seval,FMW,eInt,Tryz.results101,ag_167,sz_167]
 intro v13
 refine Mir.toK (.seqK (.sR fun e h=>?_))
 simp only [seval,EMW,fld_25_6,sz_4,ag_4,eInt]
 refine mU e (Mir.joinO (fun v15 : R44Path=>([U,U,U,U,.ptr 4 0,U,.ptr 6 0] ++ us 70)) (fun v15=>⟨[[.d (.int .i64 a0.Code),.d (.int .i64 a0.R),.d (.int .i64 a0.Z),.d (.int .i64 a0.Q),.d (.int .i64 a0.Rate),.d (.int .i64 a0.Initial),.d (.bool a0.High)],[.d (.int .i64 a1.X),.d (.int .i64 a1.Y),.d (.int .i64 a1.Z)],[.d (.int .i64 v5.At.X),.d (.int .i64 v5.At.Y),.d (.int .i64 v5.At.Z),.own 0 (List.map encApiMove v5.Moves)],[.d (.int .i64 a0.Code),.d (.int .i64 a0.R),.d (.int .i64 a0.Z),.d (.int .i64 a0.Q),.d (.int .i64 a0.Rate),.d (.int .i64 a0.Initial),.d (.bool a0.High)],[.d (.int .i64 v15.At.X),.d (.int .i64 v15.At.Y),.d (.int .i64 v15.At.Z),.own 0 (List.map encApiMove v15.Moves)],[.d (.int .i64 e2.X),.d (.int .i64 e2.Y)],[.d (.int .i64 0),.d (.int .i64 0),.d (.int .i64 0),.own 1 (List.map encApiMove [])]],[(111,v15.Moves.length),(111,0)]⟩) (fun _=>rfl) ?_ ?_) h
 refine .cond rfl (fun h22=>?_) (fun h22=>?_)
 refine .bind fun y12 h23=>.bind fun v14 h24=>.regionT 6 [] (by kernel_rfl) fun e h=>?_
 simp only [seval,EMW,w_none,w_eq,SB,ag_167,sz_167,fld_167_0,sz_27,ag_27,fld_25_5,sz_2,ag_2,eInt]
 refine Spec.by (r44_up_spec h23) (by simp only [seval,FMW,eInt]) ?_
 simp only [seval,EMW,w_none,w_eq,SB,eInt]
 refine regW.of ?_
 simp only [seval,EMW,w_none,w_eq,eInt]
 refine SpecS.inl Tryz.func126 rfl (by kernel_rfl) (by kernel_rfl) (fun v14 : R44Path=>.agg [.d (.int .i64 v14.At.X),.d (.int .i64 v14.At.Y),.d (.int .i64 v14.At.Z),.own 0 (List.map encApiMove v14.Moves)]) (fun v14=>⟨[[.d (.int .i64 a0.Code),.d (.int .i64 a0.R),.d (.int .i64 a0.Z),.d (.int .i64 a0.Q),.d (.int .i64 a0.Rate),.d (.int .i64 a0.Initial),.d (.bool a0.High)],[.d (.int .i64 a1.X),.d (.int .i64 a1.Y),.d (.int .i64 a1.Z)],[.d (.int .i64 v5.At.X),.d (.int .i64 v5.At.Y),.d (.int .i64 v5.At.Z),.own 0 (List.map encApiMove v5.Moves)],[.d (.int .i64 a0.Code),.d (.int .i64 a0.R),.d (.int .i64 a0.Z),.d (.int .i64 a0.Q),.d (.int .i64 a0.Rate),.d (.int .i64 a0.Initial),.d (.bool a0.High)],[.d (.int .i64 v13.At.X),.d (.int .i64 v13.At.Y),.d (.int .i64 v13.At.Z),.own 0 (List.map encApiMove v13.Moves)],[.d (.int .i64 e2.X),.d (.int .i64 e2.Y)],[.d (.int .i64 0),.d (.int .i64 0),.d (.int .i64 0),.own 1 (List.map encApiMove [])]],[(111,v14.Moves.length),(111,0)]⟩) h24 rfl ?_ ?_
 simp only [List.replicate,List.length,nS,nA,Tryz.ntmps126,SV]
 refine .sR fun e h=>?_
 simp only [seval,EMW,zero_167,eInt]
 refine mU e (.seqK (.sR fun e h=>?_)) h
 simp only [seval,EMW,fld_167_0,sz_27,ag_27,gE_27,eInt]
 refine mU e (.cond rfl (fun h25=>?_) (fun h25=>?_)) h
 refine .sR fun e h=>?_
 simp only [seval,EMW,ag_167,sz_167,eInt]
 refine mU e (.ret fun e h=>?_) h
 cases h
 simp only [seval,FMW,eInt,Tryz.results126,ag_167,sz_167]
 refine .skip (Mir.toK (.sR fun e h=>?_))
 simp only [seval,EMW,eInt]
 refine mU e (.seqK (.sR fun e h=>?_)) h
 simp only [seval,EMW,(nr rfl : (decide ((0 : Int) > 0)) = false),eInt]
 refine mU e (.condF rfl (.skip (Mir.toK (.seqK (.guard fun q11=>.regionD [] (by kernel_rfl) fun e h=>?_))))) h
 simp only [seval,EMW,SB,ag_27,sz_27,fld_167_1,sz_102,ag_102,zero_111,pl_111,und_102,sz_111,(oL 7),app_102,al_ApiMove,q11,zero_167,pl_167,sz_167,eInt]
 refine mU e (.ret fun e h=>?_) h
 cases h
 simp only [seval,FMW,eInt,Tryz.results126,ag_167,sz_167]
 simp only [seval,EMW,w_none,w_eq,sz_167,eInt]
 cases h
 simp only [seval,FMW,eInt,Tryz.results101,ag_167,sz_167]
 refine .skip fun e h=>?_
 cases h
 simp only [seval,FMW,eInt,Tryz.results101,ag_167,sz_167]
 intro v15
 refine Mir.toK (.sR fun e h=>?_)
 simp only [seval,EMW,ag_167,sz_167,eInt]
 refine mU e (.ret fun e h=>?_) h
 cases h
 simp only [seval,FMW,eInt,Tryz.results101,ag_167,sz_167]
 simp only [seval,EMW,w_none,w_eq,sz_167,eInt]
 refine mU e (.sR fun e h=>?_) h
 simp only [seval,EMW,fld_167_1,sz_102,ag_102,und_102,eInt]
 refine mU e (.cond rfl (fun h26=>?_) (fun h26=>?_)) h
 refine .sR fun e h=>?_
 simp only [seval,EMW,eInt]
 refine mU e (.ret fun e h=>?_) h
 cases h
 simp only [seval,FMW,eInt,Tryz.results78]
 refine .skip (Mir.toB (Mir.toK (.region fun e h=>?_)))
 simp only [seval,EMW,eInt]
 cases h
 simp only [seval,FMW,eInt,Tryz.results78,q2]
 intro v5 q12
 refine .seqK (.sR fun e h=>?_)
 simp only [seval,EMW,und_145,q12,eInt]
 refine mU e (.condF rfl (.exit fun e h=>?_)) h
 cases h
 simp only [seval,FMW,eInt,Tryz.results78]
 intro v17
 refine Mir.toK (.sR fun e h=>?_)
 simp only [seval,EMW,fld_167_1,sz_102,ag_102,eInt]
 refine mU e (.ret fun e h=>?_) h
 cases h
 simp only [seval,FMW,eInt,Tryz.results78]
def r47_value (a0 : ApiBlock) (a1 : Int) : Option Int := bindO (r41_Find a0 a1) fun (y1 : Int × Bool)=>some y1.1
theorem r47_value_spec {a0 : ApiBlock} {a1 : Int} {y : Int} (h : r47_value a0 a1 = some y) : Spec gP 79 [.agg [.d (.bool a0.Skip),.d (.list (List.map encApiWord a0.Words)),.d (.str a0.Comment)],.d (.int .u8 a1)] (.d (.int .i64 y)) := by
 refine spec_mir Tryz.func79 rfl (by kernel_rfl) (by kernel_rfl) (fun y : Int=>.d (.int .i64 y)) ?_ h
 unfold r47_value
 simp only [List.replicate,List.length,nS,nA,Tryz.ntmps79,SV]
 refine .sR fun e h=>?_
 simp only [seval,EMW]
 refine mU e (.seqK (.bind fun y1 hy1=>.region fun e h=>?_)) h
 simp only [seval,EMW,ag_32,sz_32]
 refine SpecS.by (r41_Find_spec hy1) (by simp only [seval,FMW]) ?_
 simp only [seval,EMW]
 refine mU e (.sR fun e h=>?_) h
 simp only [seval,EMW]
 refine mU e (.ret fun e h=>?_) h
 cases h
 simp only [seval,FMW,Tryz.results79]
def r33_arc (a0 : ApiMove) : Option Bool := some ((a0.Kind == 3) || (a0.Kind == 4))
theorem r33_arc_spec {a0 : ApiMove} {y : Bool} (h : r33_arc a0 = some y) : Spec gP 102 [.agg [.d (.int .i64 a0.Kind),.d (.int .i64 a0.To.X),.d (.int .i64 a0.To.Y),.d (.int .i64 a0.To.Z),.d (.int .i64 a0.Center.X),.d (.int .i64 a0.Center.Y),.d (.int .i64 a0.Rate)]] (.d (.bool y)) := by
 refine spec_mir Tryz.func102 rfl (by kernel_rfl) (by kernel_rfl) (fun y : Bool=>.d (.bool y)) ?_ h
 unfold r33_arc
 simp only [List.replicate,List.length,nS,nA,Tryz.ntmps102,SV]
 refine .sR fun e h=>?_
 simp only [seval,EMW]
 refine mU e (.seqK (.joinV ([U,U,.d (.bool ((a0.Kind == 3) || (a0.Kind == 4)))] ++ us 8) ⟨[[.d (.int .i64 a0.Kind),.d (.int .i64 a0.To.X),.d (.int .i64 a0.To.Y),.d (.int .i64 a0.To.Z),.d (.int .i64 a0.Center.X),.d (.int .i64 a0.Center.Y),.d (.int .i64 a0.Rate)]],[]⟩ rfl ?_ ?_)) h
 refine SWs.region ?_
 rcases Bool.eq_false_or_eq_true (a0.Kind == 3) with hb1 | hb1
 simp only [seval,EMW,SL,PB,fld_111_0,sz_3,ag_3,hb1]
 simp only [seval,EMW,SL,PB,fld_111_0,sz_3,ag_3,hb1]
 refine Mir.toK (.ret fun e h=>?_)
 cases h
 simp only [seval,FMW,Tryz.results102]
def r33_far (a0 : Int) : Option Bool := some ((decide (a0 > 10000000)) || (decide (a0 < (-10000000))))
theorem r33_far_spec {a0 : Int} {y : Bool} (h : r33_far a0 = some y) : Spec gP 103 [.d (.int .i64 a0)] (.d (.bool y)) := by
 refine spec_mir Tryz.func103 rfl (by kernel_rfl) (by kernel_rfl) (fun y : Bool=>.d (.bool y)) ?_ h
 unfold r33_far
 simp only [List.replicate,List.length,nS,nA,Tryz.ntmps103,SV]
 refine .sR fun e h=>?_
 simp only [seval,EMW]
 refine mU e (.seqK (.joinV ([U,U,.d (.bool ((decide (a0 > 10000000)) || (decide (a0 < (-10000000)))))] ++ us 6) ⟨[],[]⟩ rfl ?_ ?_)) h
 refine SWs.region ?_
 rcases Bool.eq_false_or_eq_true (decide (a0 > 10000000)) with hb1 | hb1
 simp only [seval,EMW,SL,PB,hb1]
 simp only [seval,EMW,SL,PB,hb1]
 refine Mir.toK (.ret fun e h=>?_)
 cases h
 simp only [seval,FMW,Tryz.results103]
def r33_apart (a0 : Int) (a1 : Int) : Option Int := bindO (if (decide (a0 < a1)) = true then some (a1,a0) else some (a0,a1)) fun (v1 : Int × Int)=>some (IntKind.u64.wrap ((IntKind.u64.wrap v1.1) - (IntKind.u64.wrap v1.2)))
theorem r33_apart_spec {a0 : Int} {a1 : Int} {y : Int} (h : r33_apart a0 a1 = some y) : Spec gP 128 [.d (.int .i64 a0),.d (.int .i64 a1)] (.d (.int .u64 y)) := by
 refine spec_mir Tryz.func128 rfl (by kernel_rfl) (by kernel_rfl) (fun y : Int=>.d (.int .u64 y)) ?_ h
 unfold r33_apart
 simp only [List.replicate,List.length,nS,nA,Tryz.ntmps128,SV]
 refine .sR fun e h=>?_
 simp only [seval,EMW]
 refine mU e (.seqK (.sR fun e h=>?_)) h
 simp only [seval,EMW]
 refine mU e (Mir.joinO (fun v1 : Int × Int=>([.d (.int .i64 v1.1),.d (.int .i64 v1.2)] ++ us 13)) (fun v1=>⟨[],[]⟩) (fun _=>rfl) ?_ ?_) h
 refine .cond rfl (fun hb2=>?_) (fun hb2=>?_)
 refine .region fun e h=>?_
 simp only [seval,EMW]
 cases h
 simp only [seval,FMW,Tryz.results128]
 refine .skip fun e h=>?_
 cases h
 simp only [seval,FMW,Tryz.results128]
 intro v1
 refine Mir.toK (.sR fun e h=>?_)
 simp only [seval,EMW,und_2,und_186]
 refine mU e (.ret fun e h=>?_) h
 cases h
 simp only [seval,FMW,Tryz.results128]
def r33_right (a0 : ApiPos) (a1 : ApiMove) : Option Bool := bindO (r33_apart a0.X a1.Center.X) fun (y1 : Int)=>bindO (r33_apart a0.Y a1.Center.Y) fun (y2 : Int)=>bindO (r33_apart a1.To.X a1.Center.X) fun (y3 : Int)=>bindO (r33_apart a1.To.Y a1.Center.Y) fun (y4 : Int)=>some (!((y1 == 0) == (y2 == 0)) && (!((y3 == 0) == (y4 == 0)) && ((IntKind.u64.wrap (y1 + y2)) == (IntKind.u64.wrap (y3 + y4)))))
theorem r33_right_spec {a0 : ApiPos} {a1 : ApiMove} {y : Bool} (h : r33_right a0 a1 = some y) : Spec gP 104 [.agg [.d (.int .i64 a0.X),.d (.int .i64 a0.Y),.d (.int .i64 a0.Z)],.agg [.d (.int .i64 a1.Kind),.d (.int .i64 a1.To.X),.d (.int .i64 a1.To.Y),.d (.int .i64 a1.To.Z),.d (.int .i64 a1.Center.X),.d (.int .i64 a1.Center.Y),.d (.int .i64 a1.Rate)]] (.d (.bool y)) := by
 refine spec_mir Tryz.func104 rfl (by kernel_rfl) (by kernel_rfl) (fun y : Bool=>.d (.bool y)) ?_ h
 unfold r33_right
 simp only [List.replicate,List.length,nS,nA,Tryz.ntmps104,SV]
 refine .sR fun e h=>?_
 simp only [seval,EMW]
 refine mU e (.seqK (.bind fun y1 hy1=>.bind fun y2 hy2=>.regionD [] (by kernel_rfl) fun e h=>?_)) h
 simp only [seval,EMW,SB,fld_27_0,sz_2,ag_2,fld_111_2,sz_109,fld_109_0]
 refine Spec.by (r33_apart_spec hy1) (by simp only [seval,FMW]) ?_
 simp only [seval,EMW,SB,fld_27_1,sz_2,ag_2,fld_111_2,sz_109,fld_109_1]
 refine Spec.by (r33_apart_spec hy2) (by simp only [seval,FMW]) ?_
 simp only [seval,EMW,SB]
 refine mU e (.seqK (.bind fun y3 hy3=>.bind fun y4 hy4=>.regionD [] (by kernel_rfl) fun e h=>?_)) h
 simp only [seval,EMW,SB,fld_111_1,sz_27,fld_27_0,sz_2,ag_2,fld_111_2,sz_109,fld_109_0]
 refine Spec.by (r33_apart_spec hy3) (by simp only [seval,FMW]) ?_
 simp only [seval,EMW,SB,fld_111_1,sz_27,fld_27_1,sz_2,ag_2,fld_111_2,sz_109,fld_109_1]
 refine Spec.by (r33_apart_spec hy4) (by simp only [seval,FMW]) ?_
 simp only [seval,EMW,SB]
 refine mU e (.seqK (.joinV ([U,U,U,U,.d (.bool (!((y1 == 0) == (y2 == 0)) && (!((y3 == 0) == (y4 == 0)) && ((IntKind.u64.wrap (y1 + y2)) == (IntKind.u64.wrap (y3 + y4))))))] ++ us 51) ⟨[[.d (.int .i64 a0.X),.d (.int .i64 a0.Y),.d (.int .i64 a0.Z)],[.d (.int .i64 a1.Kind),.d (.int .i64 a1.To.X),.d (.int .i64 a1.To.Y),.d (.int .i64 a1.To.Z),.d (.int .i64 a1.Center.X),.d (.int .i64 a1.Center.Y),.d (.int .i64 a1.Rate)]],[]⟩ rfl ?_ ?_)) h
 refine SWs.region ?_
 rcases Bool.eq_false_or_eq_true ((y1 == 0) == (y2 == 0)) with hb5 | hb5
 simp only [seval,EMW,SL,PB,und_4,hb5]
 rcases Bool.eq_false_or_eq_true ((y3 == 0) == (y4 == 0)) with hb6 | hb6
 simp only [seval,EMW,SL,PB,und_4,hb5,hb6]
 simp only [seval,EMW,SL,PB,und_4,hb5,hb6]
 refine Mir.toK (.ret fun e h=>?_)
 cases h
 simp only [seval,FMW,Tryz.results104]
def r33_quadrant (a0 : Int) (a1 : Int) : Option (Int × Int) := if ((decide (a0 > 0)) && (a1 == 0)) = true then some (0,a0) else if ((a0 == 0) && (decide (a1 > 0))) = true then some (1,a1) else if ((decide (a0 < 0)) && (a1 == 0)) = true then some (2,IntKind.i64.wrap (0 - a0)) else if ((a0 == 0) && (decide (a1 < 0))) = true then some (3,IntKind.i64.wrap (0 - a1)) else some (-1,0)
theorem r33_quadrant_spec {a0 : Int} {a1 : Int} {y : Int × Int} (h : r33_quadrant a0 a1 = some y) : Spec gP 105 [.d (.int .i64 a0),.d (.int .i64 a1)] (.tuple [.d (.int .i64 y.1),.d (.int .i64 y.2)]) := by
 refine spec_mir Tryz.func105 rfl (by kernel_rfl) (by kernel_rfl) (fun y : Int × Int=>.tuple [.d (.int .i64 y.1),.d (.int .i64 y.2)]) ?_ h
 unfold r33_quadrant
 simp only [List.replicate,List.length,nS,nA,Tryz.ntmps105,SV]
 refine .sR fun e h=>?_
 simp only [seval,EMW]
 refine mU e (.seqK (.block (.seqK (.joinV ([.d (.int .i64 a0),.d (.int .i64 a1),U,U,U,U,.d (.bool ((decide (a0 > 0)) && (a1 == 0)))] ++ us 33) ⟨[],[]⟩ rfl ?_ ?_)))) h
 refine SWs.region ?_
 rcases Bool.eq_false_or_eq_true (decide (a0 > 0)) with hb9 | hb9
 simp only [seval,EMW,SL,PB,hb9]
 simp only [seval,EMW,SL,PB,hb9]
 refine Mir.toK (.cond rfl (fun hb17=>?_) (fun hb17=>?_))
 refine .sR fun e h=>?_
 simp only [seval,EMW]
 refine mU e (.ret fun e h=>?_) h
 cases h
 simp only [seval,FMW,Tryz.results105]
 refine .seqK (.joinV ([.d (.int .i64 a0),.d (.int .i64 a1),U,U,U,U,U,U,U,U,U,U,U,U,.d (.bool ((a0 == 0) && (decide (a1 > 0))))] ++ us 25) ⟨[],[]⟩ rfl ?_ ?_)
 refine SWs.region ?_
 rcases Bool.eq_false_or_eq_true (a0 == 0) with hb18 | hb18
 simp only [seval,EMW,SL,PB,hb18]
 simp only [seval,EMW,SL,PB,hb18]
 refine Mir.toK (.cond rfl (fun hb24=>?_) (fun hb24=>?_))
 refine .sR fun e h=>?_
 simp only [seval,EMW]
 refine mU e (.ret fun e h=>?_) h
 cases h
 simp only [seval,FMW,Tryz.results105]
 refine .seqK (.joinV ([.d (.int .i64 a0),.d (.int .i64 a1),U,U,U,U,U,U,U,U,U,U,U,U,U,U,U,U,U,U,U,U,.d (.bool ((decide (a0 < 0)) && (a1 == 0)))] ++ us 17) ⟨[],[]⟩ rfl ?_ ?_)
 refine SWs.region ?_
 rcases Bool.eq_false_or_eq_true (decide (a0 < 0)) with hb25 | hb25
 simp only [seval,EMW,SL,PB,hb25]
 simp only [seval,EMW,SL,PB,hb25]
 refine Mir.toK (.cond rfl (fun hb29=>?_) (fun hb29=>?_))
 refine .sR fun e h=>?_
 simp only [seval,EMW]
 refine mU e (.ret fun e h=>?_) h
 cases h
 simp only [seval,FMW,Tryz.results105]
 refine .seqK (.joinV ([U,.d (.int .i64 a1),U,U,U,U,U,U,U,U,U,U,U,U,U,U,U,U,U,U,U,U,U,U,U,U,U,U,U,U,U,.d (.bool ((a0 == 0) && (decide (a1 < 0))))] ++ us 8) ⟨[],[]⟩ rfl ?_ ?_)
 refine SWs.region ?_
 rcases Bool.eq_false_or_eq_true (a0 == 0) with hb30 | hb30
 simp only [seval,EMW,SL,PB,hb30]
 simp only [seval,EMW,SL,PB,hb30]
 refine Mir.toK (.cond rfl (fun hb32=>?_) (fun hb32=>?_))
 refine .sR fun e h=>?_
 simp only [seval,EMW]
 refine mU e (.ret fun e h=>?_) h
 cases h
 simp only [seval,FMW,Tryz.results105]
 refine .skip (Mir.toB (Mir.toK (.sR fun e h=>?_)))
 simp only [seval,EMW]
 refine mU e (.ret fun e h=>?_) h
 cases h
 simp only [seval,FMW,Tryz.results105]
def r33_Valid (a0 : ApiPos) (a1 : ApiMove) : Option Int := bindO (if (if (a1.Kind == 1) = true then (a1.Rate == 0) || ((a1.Kind == 2) && (decide (a1.Rate > 0))) else (a1.Kind == 2) && (decide (a1.Rate > 0))) = true then some false else bindO (r33_arc a1) fun (y1 : Bool)=>if y1 = true then some (decide (a1.Rate ≤ 0)) else some true) fun (v1 : Bool)=>if v1 = true then some 1 else bindO (bindO (r33_far a0.X) fun (y2 : Bool)=>if y2 = true then some true else bindO (r33_far a0.Y) fun (y3 : Bool)=>if y3 = true then some true else bindO (r33_far a0.Z) fun (y4 : Bool)=>if y4 = true then some true else bindO (r33_far a1.To.X) fun (y5 : Bool)=>if y5 = true then some true else bindO (r33_far a1.To.Y) fun (y6 : Bool)=>if y6 = true then some true else bindO (r33_far a1.To.Z) fun (y7 : Bool)=>some y7) fun (v2 : Bool)=>if (if (a1.Kind == 1) = true then (a1.Rate == 0) || ((a1.Kind == 2) && (decide (a1.Rate > 0))) else (a1.Kind == 2) && (decide (a1.Rate > 0))) = true then if v2 = true then some 11 else some 0 else bindO (if v2 = true then some true else bindO (r33_far a1.Center.X) fun (y8 : Bool)=>if y8 = true then some true else bindO (r33_far a1.Center.Y) fun (y9 : Bool)=>some y9) fun (v3 : Bool)=>if v3 = true then bindO (r33_right a0 a1) fun (y10 : Bool)=>if (!y10) = true then some 1 else some 11 else bindO (r33_quadrant (IntKind.i64.wrap (a0.X - a1.Center.X)) (IntKind.i64.wrap (a0.Y - a1.Center.Y))) fun (y11 : Int × Int)=>bindO (r33_quadrant (IntKind.i64.wrap (a1.To.X - a1.Center.X)) (IntKind.i64.wrap (a1.To.Y - a1.Center.Y))) fun (y12 : Int × Int)=>if ((decide (y11.1 < 0)) || ((decide (y12.1 < 0)) || (y11.2 != y12.2))) = true then some 1 else bindO (bindO (r33_far (IntKind.i64.wrap (a1.Center.X + y11.2))) fun (y13 : Bool)=>if y13 = true then some true else bindO (r33_far (IntKind.i64.wrap (a1.Center.X - y11.2))) fun (y14 : Bool)=>if y14 = true then some true else bindO (r33_far (IntKind.i64.wrap (a1.Center.Y + y11.2))) fun (y15 : Bool)=>if y15 = true then some true else bindO (r33_far (IntKind.i64.wrap (a1.Center.Y - y11.2))) fun (y16 : Bool)=>some y16) fun (v4 : Bool)=>if v4 = true then some 11 else some 0
theorem r33_Valid_spec {a0 : ApiPos} {a1 : ApiMove} {y : Int} (h : r33_Valid a0 a1 = some y) : Spec gP 80 [.agg [.d (.int .i64 a0.X),.d (.int .i64 a0.Y),.d (.int .i64 a0.Z)],.agg [.d (.int .i64 a1.Kind),.d (.int .i64 a1.To.X),.d (.int .i64 a1.To.Y),.d (.int .i64 a1.To.Z),.d (.int .i64 a1.Center.X),.d (.int .i64 a1.Center.Y),.d (.int .i64 a1.Rate)]] (.d (.int .i64 y)) := by
 refine spec_mir Tryz.func80 rfl (by kernel_rfl) (by kernel_rfl) (fun y : Int=>.d (.int .i64 y)) ?_ h
 unfold r33_Valid
 simp only [List.replicate,List.length,nS,nA,Tryz.ntmps80,SV]
 refine .sR fun e h=>?_
 simp only [seval,EMW]
 refine mU e (.seqK (.joinV ([U,U,.ptr 0 0,.ptr 1 0,U,.d (.bool (if (a1.Kind == 1) = true then (a1.Rate == 0) || ((a1.Kind == 2) && (decide (a1.Rate > 0))) else (a1.Kind == 2) && (decide (a1.Rate > 0))))] ++ us 160) ⟨[[.d (.int .i64 a0.X),.d (.int .i64 a0.Y),.d (.int .i64 a0.Z)],[.d (.int .i64 a1.Kind),.d (.int .i64 a1.To.X),.d (.int .i64 a1.To.Y),.d (.int .i64 a1.To.Z),.d (.int .i64 a1.Center.X),.d (.int .i64 a1.Center.Y),.d (.int .i64 a1.Rate)]],[]⟩ rfl ?_ ?_)) h
 refine SWs.region ?_
 rcases Bool.eq_false_or_eq_true (a1.Kind == 1) with hb1 | hb1
 rcases Bool.eq_false_or_eq_true (a1.Rate == 0) with hb2 | hb2
 simp only [seval,EMW,SL,PB,fld_111_0,sz_3,ag_3,fld_111_3,sz_2,ag_2,hb1,hb2]
 rcases Bool.eq_false_or_eq_true (a1.Kind == 2) with hb3 | hb3
 simp only [seval,EMW,SL,PB,fld_111_0,sz_3,ag_3,fld_111_3,sz_2,ag_2,hb1,hb2,hb3]
 simp only [seval,EMW,SL,PB,fld_111_0,sz_3,ag_3,fld_111_3,sz_2,ag_2,hb1,hb2,hb3]
 rcases Bool.eq_false_or_eq_true (a1.Kind == 2) with hb4 | hb4
 simp only [seval,EMW,SL,PB,fld_111_0,sz_3,ag_3,fld_111_3,sz_2,ag_2,hb1,hb4]
 simp only [seval,EMW,SL,PB,fld_111_0,sz_3,ag_3,hb1,hb4]
 refine Mir.toK (.seqK (.seqK (Mir.joinO (fun v1 : Bool=>([U,U,.ptr 0 0,.ptr 1 0,U,.d (.bool (if (a1.Kind == 1) = true then (a1.Rate == 0) || ((a1.Kind == 2) && (decide (a1.Rate > 0))) else (a1.Kind == 2) && (decide (a1.Rate > 0)))),U,U,U,U,U,U,U,U,U,U,U,U,U,U,U,U,U,U,U,U,U,U,U,U,U,U,U,U,U,U,U,U,U,U,.d (.bool v1)] ++ us 125)) (fun v1=>⟨[[.d (.int .i64 a0.X),.d (.int .i64 a0.Y),.d (.int .i64 a0.Z)],[.d (.int .i64 a1.Kind),.d (.int .i64 a1.To.X),.d (.int .i64 a1.To.Y),.d (.int .i64 a1.To.Z),.d (.int .i64 a1.Center.X),.d (.int .i64 a1.Center.Y),.d (.int .i64 a1.Rate)]],[]⟩) (fun _=>rfl) ?_ ?_)))
 refine .ite (fun hb5=>?_) (fun hb5=>?_)
 refine .region fun e h=>?_
 simp only [seval,EMW,hb5]
 cases h
 simp only [seval,FMW,hb5]
 refine .bind fun y1 hy6=>.ite (fun hb7=>?_) (fun hb7=>?_)
 refine .region fun e h=>?_
 simp only [seval,EMW,ag_111,sz_111,hb5,hb7]
 refine SpecS.by (r33_arc_spec hy6) (by simp only [seval,FMW,hb5,hb7]) ?_
 simp only [seval,EMW,fld_111_3,sz_2,ag_2,hb5,hb7]
 cases h
 simp only [seval,FMW,hb5,hb7]
 refine .region fun e h=>?_
 simp only [seval,EMW,ag_111,sz_111,hb5,hb7]
 refine SpecS.by (r33_arc_spec hy6) (by simp only [seval,FMW,hb5,hb7]) ?_
 simp only [seval,EMW,hb5,hb7]
 cases h
 simp only [seval,FMW,hb5,hb7]
 intro v1
 refine Mir.toK (.cond rfl (fun hb9=>?_) (fun hb9=>?_))
 refine .sR fun e h=>?_
 simp only [seval,EMW]
 refine mU e (.ret fun e h=>?_) h
 cases h
 simp only [seval,FMW,Tryz.results80]
 refine .skip (Mir.toK (.seqK (Mir.joinO (fun v2 : Bool=>([U,U,.ptr 0 0,.ptr 1 0,U,.d (.bool (if (a1.Kind == 1) = true then (a1.Rate == 0) || ((a1.Kind == 2) && (decide (a1.Rate > 0))) else (a1.Kind == 2) && (decide (a1.Rate > 0)))),.d (.bool v2)] ++ us 159)) (fun v2=>⟨[[.d (.int .i64 a0.X),.d (.int .i64 a0.Y),.d (.int .i64 a0.Z)],[.d (.int .i64 a1.Kind),.d (.int .i64 a1.To.X),.d (.int .i64 a1.To.Y),.d (.int .i64 a1.To.Z),.d (.int .i64 a1.Center.X),.d (.int .i64 a1.Center.Y),.d (.int .i64 a1.Rate)]],[]⟩) (fun _=>rfl) ?_ ?_)))
 refine .bind fun y2 hy10=>.ite (fun hb11=>?_) (fun hb11=>?_)
 refine .region fun e h=>?_
 simp only [seval,EMW,fld_27_0,sz_2,ag_2,hb11]
 refine SpecS.by (r33_far_spec hy10) (by simp only [seval,FMW,hb11]) ?_
 simp only [seval,EMW,hb11]
 cases h
 simp only [seval,FMW,hb11]
 refine .bind fun y3 hy12=>.ite (fun hb13=>?_) (fun hb13=>?_)
 refine .region fun e h=>?_
 simp only [seval,EMW,fld_27_0,sz_2,ag_2,hb11,hb13]
 refine SpecS.by (r33_far_spec hy10) (by simp only [seval,FMW,hb11,hb13]) ?_
 simp only [seval,EMW,fld_27_1,sz_2,ag_2,hb11,hb13]
 refine SpecS.by (r33_far_spec hy12) (by simp only [seval,FMW,hb11,hb13]) ?_
 simp only [seval,EMW,hb11,hb13]
 cases h
 simp only [seval,FMW,hb11,hb13]
 refine .bind fun y4 hy14=>.ite (fun hb15=>?_) (fun hb15=>?_)
 refine .region fun e h=>?_
 simp only [seval,EMW,fld_27_0,sz_2,ag_2,hb11,hb13,hb15]
 refine SpecS.by (r33_far_spec hy10) (by simp only [seval,FMW,hb11,hb13,hb15]) ?_
 simp only [seval,EMW,fld_27_1,sz_2,ag_2,hb11,hb13,hb15]
 refine SpecS.by (r33_far_spec hy12) (by simp only [seval,FMW,hb11,hb13,hb15]) ?_
 simp only [seval,EMW,fld_27_2,sz_2,ag_2,hb11,hb13,hb15]
 refine SpecS.by (r33_far_spec hy14) (by simp only [seval,FMW,hb11,hb13,hb15]) ?_
 simp only [seval,EMW,hb11,hb13,hb15]
 cases h
 simp only [seval,FMW,hb11,hb13,hb15]
 refine .bind fun y5 hy16=>.ite (fun hb17=>?_) (fun hb17=>?_)
 refine .region fun e h=>?_
 simp only [seval,EMW,fld_27_0,sz_2,ag_2,hb11,hb13,hb15,hb17]
 refine SpecS.by (r33_far_spec hy10) (by simp only [seval,FMW,hb11,hb13,hb15,hb17]) ?_
 simp only [seval,EMW,fld_27_1,sz_2,ag_2,hb11,hb13,hb15,hb17]
 refine SpecS.by (r33_far_spec hy12) (by simp only [seval,FMW,hb11,hb13,hb15,hb17]) ?_
 simp only [seval,EMW,fld_27_2,sz_2,ag_2,hb11,hb13,hb15,hb17]
 refine SpecS.by (r33_far_spec hy14) (by simp only [seval,FMW,hb11,hb13,hb15,hb17]) ?_
 simp only [seval,EMW,fld_111_1,sz_27,fld_27_0,sz_2,ag_2,hb11,hb13,hb15,hb17]
 refine SpecS.by (r33_far_spec hy16) (by simp only [seval,FMW,hb11,hb13,hb15,hb17]) ?_
 simp only [seval,EMW,hb11,hb13,hb15,hb17]
 cases h
 simp only [seval,FMW,hb11,hb13,hb15,hb17]
 refine .bind fun y6 hy18=>.ite (fun hb19=>?_) (fun hb19=>?_)
 refine .region fun e h=>?_
 simp only [seval,EMW,fld_27_0,sz_2,ag_2,hb11,hb13,hb15,hb17,hb19]
 refine SpecS.by (r33_far_spec hy10) (by simp only [seval,FMW,hb11,hb13,hb15,hb17,hb19]) ?_
 simp only [seval,EMW,fld_27_1,sz_2,ag_2,hb11,hb13,hb15,hb17,hb19]
 refine SpecS.by (r33_far_spec hy12) (by simp only [seval,FMW,hb11,hb13,hb15,hb17,hb19]) ?_
 simp only [seval,EMW,fld_27_2,sz_2,ag_2,hb11,hb13,hb15,hb17,hb19]
 refine SpecS.by (r33_far_spec hy14) (by simp only [seval,FMW,hb11,hb13,hb15,hb17,hb19]) ?_
 simp only [seval,EMW,fld_111_1,sz_27,fld_27_0,sz_2,ag_2,hb11,hb13,hb15,hb17,hb19]
 refine SpecS.by (r33_far_spec hy16) (by simp only [seval,FMW,hb11,hb13,hb15,hb17,hb19]) ?_
 simp only [seval,EMW,fld_111_1,sz_27,fld_27_1,sz_2,ag_2,hb11,hb13,hb15,hb17,hb19]
 refine SpecS.by (r33_far_spec hy18) (by simp only [seval,FMW,hb11,hb13,hb15,hb17,hb19]) ?_
 simp only [seval,EMW,hb11,hb13,hb15,hb17,hb19]
 cases h
 simp only [seval,FMW,hb11,hb13,hb15,hb17,hb19]
 refine .bind fun y7 hy20=>.region fun e h=>?_
 simp only [seval,EMW,fld_27_0,sz_2,ag_2,hb11,hb13,hb15,hb17,hb19]
 refine SpecS.by (r33_far_spec hy10) (by simp only [seval,FMW,hb11,hb13,hb15,hb17,hb19]) ?_
 simp only [seval,EMW,fld_27_1,sz_2,ag_2,hb11,hb13,hb15,hb17,hb19]
 refine SpecS.by (r33_far_spec hy12) (by simp only [seval,FMW,hb11,hb13,hb15,hb17,hb19]) ?_
 simp only [seval,EMW,fld_27_2,sz_2,ag_2,hb11,hb13,hb15,hb17,hb19]
 refine SpecS.by (r33_far_spec hy14) (by simp only [seval,FMW,hb11,hb13,hb15,hb17,hb19]) ?_
 simp only [seval,EMW,fld_111_1,sz_27,fld_27_0,sz_2,ag_2,hb11,hb13,hb15,hb17,hb19]
 refine SpecS.by (r33_far_spec hy16) (by simp only [seval,FMW,hb11,hb13,hb15,hb17,hb19]) ?_
 simp only [seval,EMW,fld_111_1,sz_27,fld_27_1,sz_2,ag_2,hb11,hb13,hb15,hb17,hb19]
 refine SpecS.by (r33_far_spec hy18) (by simp only [seval,FMW,hb11,hb13,hb15,hb17,hb19]) ?_
 simp only [seval,EMW,fld_111_1,sz_27,fld_27_2,sz_2,ag_2,hb11,hb13,hb15,hb17,hb19]
 refine SpecS.by (r33_far_spec hy20) (by simp only [seval,FMW,hb11,hb13,hb15,hb17,hb19]) ?_
 simp only [seval,EMW,hb11,hb13,hb15,hb17,hb19]
 cases h
 simp only [seval,FMW,hb11,hb13,hb15,hb17,hb19]
 intro v2
 refine Mir.toK (.seqK (.sR fun e h=>?_))
 simp only [seval,EMW]
 refine mU e (.cond rfl (fun hb24=>?_) (fun hb24=>?_)) h
 refine .seqK (.sR fun e h=>?_)
 simp only [seval,EMW]
 refine mU e (.cond rfl (fun hb26=>?_) (fun hb26=>?_)) h
 refine .sR fun e h=>?_
 simp only [seval,EMW]
 refine mU e (.ret fun e h=>?_) h
 cases h
 simp only [seval,FMW,Tryz.results80]
 refine .skip (Mir.toK (.sR fun e h=>?_))
 simp only [seval,EMW]
 refine mU e (.ret fun e h=>?_) h
 cases h
 simp only [seval,FMW,Tryz.results80]
 refine .skip (Mir.toK (.seqK (.seqK (Mir.joinO (fun v3 : Bool=>([U,U,.ptr 0 0,.ptr 1 0,U,U,U,U,U,U,U,U,U,U,U,U,U,U,U,U,U,U,U,U,U,U,U,U,U,U,U,U,U,U,U,U,U,U,U,U,U,U,U,U,U,U,U,U,U,U,U,U,U,U,U,U,U,U,U,U,U,U,U,U,U,U,U,U,U,U,U,U,U,U,U,U,U,U,U,U,U,U,U,U,U,U,.d (.bool v3)] ++ us 79)) (fun v3=>⟨[[.d (.int .i64 a0.X),.d (.int .i64 a0.Y),.d (.int .i64 a0.Z)],[.d (.int .i64 a1.Kind),.d (.int .i64 a1.To.X),.d (.int .i64 a1.To.Y),.d (.int .i64 a1.To.Z),.d (.int .i64 a1.Center.X),.d (.int .i64 a1.Center.Y),.d (.int .i64 a1.Rate)]],[]⟩) (fun _=>rfl) ?_ ?_))))
 refine .ite (fun hb27=>?_) (fun hb27=>?_)
 refine .region fun e h=>?_
 simp only [seval,EMW,hb27]
 cases h
 simp only [seval,FMW,hb27]
 refine .bind fun y8 hy28=>.ite (fun hb29=>?_) (fun hb29=>?_)
 refine .region fun e h=>?_
 simp only [seval,EMW,fld_111_2,sz_109,fld_109_0,sz_2,ag_2,hb27,hb29]
 refine SpecS.by (r33_far_spec hy28) (by simp only [seval,FMW,hb27,hb29]) ?_
 simp only [seval,EMW,hb27,hb29]
 cases h
 simp only [seval,FMW,hb27,hb29]
 refine .bind fun y9 hy30=>.region fun e h=>?_
 simp only [seval,EMW,fld_111_2,sz_109,fld_109_0,sz_2,ag_2,hb27,hb29]
 refine SpecS.by (r33_far_spec hy28) (by simp only [seval,FMW,hb27,hb29]) ?_
 simp only [seval,EMW,fld_111_2,sz_109,fld_109_1,sz_2,ag_2,hb27,hb29]
 refine SpecS.by (r33_far_spec hy30) (by simp only [seval,FMW,hb27,hb29]) ?_
 simp only [seval,EMW,hb27,hb29]
 cases h
 simp only [seval,FMW,hb27,hb29]
 intro v3
 refine Mir.toK (.cond rfl (fun hb35=>?_) (fun hb35=>?_))
 refine .seqK (.seqK (.bind fun y10 hy36=>.region fun e h=>?_))
 simp only [seval,EMW,ag_27,sz_27,ag_111,sz_111]
 refine SpecS.by (r33_right_spec hy36) (by simp only [seval,FMW]) ?_
 simp only [seval,EMW]
 refine mU e (.cond rfl (fun hb38=>?_) (fun hb38=>?_)) h
 refine .sR fun e h=>?_
 simp only [seval,EMW]
 refine mU e (.ret fun e h=>?_) h
 cases h
 simp only [seval,FMW,Tryz.results80]
 refine .skip (Mir.toK (.sR fun e h=>?_))
 simp only [seval,EMW]
 refine mU e (.ret fun e h=>?_) h
 cases h
 simp only [seval,FMW,Tryz.results80]
 refine .skip (Mir.toK (.seqK (.bind fun y11 hy39=>.region fun e h=>?_)))
 simp only [seval,EMW,fld_27_0,sz_2,ag_2,fld_111_2,sz_109,fld_109_0,fld_27_1,fld_109_1]
 refine SpecS.by (r33_quadrant_spec hy39) (by simp only [seval,FMW]) ?_
 simp only [seval,EMW]
 refine mU e (.seqK (.bind fun y12 hy40=>.region fun e h=>?_)) h
 simp only [seval,EMW,fld_111_1,sz_27,fld_27_0,sz_2,ag_2,fld_111_2,sz_109,fld_109_0,fld_27_1,fld_109_1]
 refine SpecS.by (r33_quadrant_spec hy40) (by simp only [seval,FMW]) ?_
 simp only [seval,EMW]
 refine mU e (.seqK (.seqK (.joinV ([U,U,U,.ptr 1 0,U,U,U,U,.d (.int .i64 y11.2),U,U,U,U,U,U,U,U,U,U,U,U,U,U,U,U,U,U,U,U,U,U,U,U,U,U,U,U,U,U,U,U,U,U,U,U,U,U,U,U,U,U,U,U,U,U,U,U,U,U,U,U,U,U,U,U,U,U,U,U,U,U,U,U,U,U,U,U,U,U,U,U,U,U,U,U,U,U,U,U,U,U,U,U,U,U,U,U,U,U,U,U,U,U,U,U,U,U,U,U,U,U,U,U,U,U,U,U,U,U,U,U,U,U,U,U,U,U,U,U,U,U,U,U,U,U,.d (.bool ((decide (y11.1 < 0)) || ((decide (y12.1 < 0)) || (y11.2 != y12.2))))] ++ us 30) ⟨[[.d (.int .i64 a0.X),.d (.int .i64 a0.Y),.d (.int .i64 a0.Z)],[.d (.int .i64 a1.Kind),.d (.int .i64 a1.To.X),.d (.int .i64 a1.To.Y),.d (.int .i64 a1.To.Z),.d (.int .i64 a1.Center.X),.d (.int .i64 a1.Center.Y),.d (.int .i64 a1.Rate)]],[]⟩ rfl ?_ ?_))) h
 refine SWs.region ?_
 rcases Bool.eq_false_or_eq_true (decide (y11.1 < 0)) with hb41 | hb41
 simp only [seval,EMW,SL,PB,hb41]
 rcases Bool.eq_false_or_eq_true (decide (y12.1 < 0)) with hb42 | hb42
 simp only [seval,EMW,SL,PB,hb41,hb42]
 simp only [seval,EMW,SL,PB,hb41,hb42]
 refine Mir.toK (.cond rfl (fun hb44=>?_) (fun hb44=>?_))
 refine .sR fun e h=>?_
 simp only [seval,EMW]
 refine mU e (.ret fun e h=>?_) h
 cases h
 simp only [seval,FMW,Tryz.results80]
 refine .skip (Mir.toK (.seqK (.seqK (Mir.joinO (fun v4 : Bool=>[U,U,U,U,U,U,U,U,U,U,U,U,U,U,U,U,U,U,U,U,U,U,U,U,U,U,U,U,U,U,U,U,U,U,U,U,U,U,U,U,U,U,U,U,U,U,U,U,U,U,U,U,U,U,U,U,U,U,U,U,U,U,U,U,U,U,U,U,U,U,U,U,U,U,U,U,U,U,U,U,U,U,U,U,U,U,U,U,U,U,U,U,U,U,U,U,U,U,U,U,U,U,U,U,U,U,U,U,U,U,U,U,U,U,U,U,U,U,U,U,U,U,U,U,U,U,U,U,U,U,U,U,U,U,U,U,U,U,U,U,U,U,U,U,U,U,U,U,U,U,U,U,U,U,U,U,U,U,U,U,U,U,U,U,U,.d (.bool v4)]) (fun v4=>⟨[[.d (.int .i64 a0.X),.d (.int .i64 a0.Y),.d (.int .i64 a0.Z)],[.d (.int .i64 a1.Kind),.d (.int .i64 a1.To.X),.d (.int .i64 a1.To.Y),.d (.int .i64 a1.To.Z),.d (.int .i64 a1.Center.X),.d (.int .i64 a1.Center.Y),.d (.int .i64 a1.Rate)]],[]⟩) (fun _=>rfl) ?_ ?_))))
 refine .bind fun y13 hy45=>.ite (fun hb46=>?_) (fun hb46=>?_)
 refine .region fun e h=>?_
 simp only [seval,EMW,fld_111_2,sz_109,fld_109_0,sz_2,ag_2,hb46]
 refine SpecS.by (r33_far_spec hy45) (by simp only [seval,FMW,hb46]) ?_
 simp only [seval,EMW,hb46]
 cases h
 simp only [seval,FMW,hb46]
 refine .bind fun y14 hy47=>.ite (fun hb48=>?_) (fun hb48=>?_)
 refine .region fun e h=>?_
 simp only [seval,EMW,fld_111_2,sz_109,fld_109_0,sz_2,ag_2,hb46,hb48]
 refine SpecS.by (r33_far_spec hy45) (by simp only [seval,FMW,hb46,hb48]) ?_
 simp only [seval,EMW,fld_111_2,sz_109,fld_109_0,sz_2,ag_2,hb46,hb48]
 refine SpecS.by (r33_far_spec hy47) (by simp only [seval,FMW,hb46,hb48]) ?_
 simp only [seval,EMW,hb46,hb48]
 cases h
 simp only [seval,FMW,hb46,hb48]
 refine .bind fun y15 hy49=>.ite (fun hb50=>?_) (fun hb50=>?_)
 refine .region fun e h=>?_
 simp only [seval,EMW,fld_111_2,sz_109,fld_109_0,sz_2,ag_2,hb46,hb48,hb50]
 refine SpecS.by (r33_far_spec hy45) (by simp only [seval,FMW,hb46,hb48,hb50]) ?_
 simp only [seval,EMW,fld_111_2,sz_109,fld_109_0,sz_2,ag_2,hb46,hb48,hb50]
 refine SpecS.by (r33_far_spec hy47) (by simp only [seval,FMW,hb46,hb48,hb50]) ?_
 simp only [seval,EMW,fld_111_2,sz_109,fld_109_1,sz_2,ag_2,hb46,hb48,hb50]
 refine SpecS.by (r33_far_spec hy49) (by simp only [seval,FMW,hb46,hb48,hb50]) ?_
 simp only [seval,EMW,hb46,hb48,hb50]
 cases h
 simp only [seval,FMW,hb46,hb48,hb50]
 refine .bind fun y16 hy51=>.region fun e h=>?_
 simp only [seval,EMW,fld_111_2,sz_109,fld_109_0,sz_2,ag_2,hb46,hb48,hb50]
 refine SpecS.by (r33_far_spec hy45) (by simp only [seval,FMW,hb46,hb48,hb50]) ?_
 simp only [seval,EMW,fld_111_2,sz_109,fld_109_0,sz_2,ag_2,hb46,hb48,hb50]
 refine SpecS.by (r33_far_spec hy47) (by simp only [seval,FMW,hb46,hb48,hb50]) ?_
 simp only [seval,EMW,fld_111_2,sz_109,fld_109_1,sz_2,ag_2,hb46,hb48,hb50]
 refine SpecS.by (r33_far_spec hy49) (by simp only [seval,FMW,hb46,hb48,hb50]) ?_
 simp only [seval,EMW,fld_111_2,sz_109,fld_109_1,sz_2,ag_2,hb46,hb48,hb50]
 refine SpecS.by (r33_far_spec hy51) (by simp only [seval,FMW,hb46,hb48,hb50]) ?_
 simp only [seval,EMW,hb46,hb48,hb50]
 cases h
 simp only [seval,FMW,hb46,hb48,hb50]
 intro v4
 refine Mir.toK (.cond rfl (fun hb53=>?_) (fun hb53=>?_))
 refine .sR fun e h=>?_
 simp only [seval,EMW]
 refine mU e (.ret fun e h=>?_) h
 cases h
 simp only [seval,FMW,Tryz.results80]
 refine .skip (Mir.toK (.sR fun e h=>?_))
 simp only [seval,EMW]
 refine mU e (.ret fun e h=>?_) h
 cases h
 simp only [seval,FMW,Tryz.results80]
def r47_moves (a0 : R47Machine) (a1 : R42State) (a2 : ApiBlock) (a3 : ApiPos) : Option ((List ApiMove) × R44Cycle × Int) := bindO (r47_coordinate a2 88 a3.X a1.Distance) fun (y1 : Int)=>bindO (r47_coordinate a2 89 a3.Y a1.Distance) fun (y2 : Int)=>bindO (r47_coordinate a2 90 a3.Z a1.Distance) fun (y3 : Int)=>bindO (r47_Drills a1.Motion) fun (y4 : Bool)=>if y4 = true then bindO (if ((a0.Cycle.Code == 0) && ((a0.Cycle.R == 0) && ((a0.Cycle.Z == 0) && ((a0.Cycle.Q == 0) && ((a0.Cycle.Rate == 0) && ((a0.Cycle.Initial == 0) && (a0.Cycle.High == false))))))) = true then some a3.Z else some a0.Cycle.Initial) fun (v1 : Int)=>bindO (r44_Read a2 a1.Motion a1.Feed v1 (a1.Return == 98000) a0.Cycle) fun (y5 : R44Cycle × Int)=>if (y5.2 != 0) = true then some ([],R44Cycle.mk 0 0 0 0 0 0 false,y5.2) else bindO (r44_Expand y5.1 a3 [ApiGrid2.mk y1 y2]) fun (y6 : (List ApiMove) × Int)=>some (y6.1,y5.1,y6.2) else bindO (if (a1.Motion != 0) = true then some (ApiMove.mk 2 (ApiPos.mk y1 y2 y3) (ApiGrid2.mk 0 0) a1.Feed) else some (ApiMove.mk 1 (ApiPos.mk y1 y2 y3) (ApiGrid2.mk 0 0) 0)) fun (v2 : ApiMove)=>bindX (if ((a1.Motion == 2000) || (a1.Motion == 3000)) = true then bindO (if (a1.Motion == 3000) = true then some 4 else some 3) fun (v3 : Int)=>bindO (r47_value a2 73) fun (y7 : Int)=>bindO (r47_value a2 74) fun (y8 : Int)=>bindO (r33_Valid a3 (ApiMove.mk v3 v2.To (ApiGrid2.mk (IntKind.i64.wrap (a3.X + y7)) (IntKind.i64.wrap (a3.Y + y8))) v2.Rate)) fun (y9 : Int)=>if (y9 != 0) = true then some (.ret ([],R44Cycle.mk 0 0 0 0 0 0 false,y9)) else some (.go (ApiMove.mk v3 v2.To (ApiGrid2.mk (IntKind.i64.wrap (a3.X + y7)) (IntKind.i64.wrap (a3.Y + y8))) v2.Rate)) else some (.go v2)) fun (v4 : ApiMove)=>some ([v4],R44Cycle.mk 0 0 0 0 0 0 false,0)
theorem r47_moves_spec {a0 : R47Machine} {a1 : R42State} {a2 : ApiBlock} {a3 : ApiPos} {y : (List ApiMove) × R44Cycle × Int} (h : r47_moves a0 a1 a2 a3 = some y) : Spec gP 45 [.agg [.d (.int .i64 a0.State.Motion),.d (.int .i64 a0.State.Distance),.d (.int .i64 a0.State.Work),.d (.int .i64 a0.State.Length),.d (.int .i64 a0.State.Return),.d (.int .i64 a0.State.Feed),.d (.int .i64 a0.State.Tool),.d (.int .i64 a0.State.Offset),.d (.int .i64 a0.Cycle.Code),.d (.int .i64 a0.Cycle.R),.d (.int .i64 a0.Cycle.Z),.d (.int .i64 a0.Cycle.Q),.d (.int .i64 a0.Cycle.Rate),.d (.int .i64 a0.Cycle.Initial),.d (.bool a0.Cycle.High),.d (.int .i64 a0.At.X),.d (.int .i64 a0.At.Y),.d (.int .i64 a0.At.Z)],.agg [.d (.int .i64 a1.Motion),.d (.int .i64 a1.Distance),.d (.int .i64 a1.Work),.d (.int .i64 a1.Length),.d (.int .i64 a1.Return),.d (.int .i64 a1.Feed),.d (.int .i64 a1.Tool),.d (.int .i64 a1.Offset)],.agg [.d (.bool a2.Skip),.d (.list (List.map encApiWord a2.Words)),.d (.str a2.Comment)],.agg [.d (.int .i64 a3.X),.d (.int .i64 a3.Y),.d (.int .i64 a3.Z)]] (.tuple [.d (.list (List.map encApiMove y.1)),.agg [.d (.int .i64 y.2.1.Code),.d (.int .i64 y.2.1.R),.d (.int .i64 y.2.1.Z),.d (.int .i64 y.2.1.Q),.d (.int .i64 y.2.1.Rate),.d (.int .i64 y.2.1.Initial),.d (.bool y.2.1.High)],.d (.int .i64 y.2.2)]) := by
 refine spec_mir Tryz.func45 rfl (by kernel_rfl) (by kernel_rfl) (fun y : (List ApiMove) × R44Cycle × Int=>.tuple [.d (.list (List.map encApiMove y.1)),.agg [.d (.int .i64 y.2.1.Code),.d (.int .i64 y.2.1.R),.d (.int .i64 y.2.1.Z),.d (.int .i64 y.2.1.Q),.d (.int .i64 y.2.1.Rate),.d (.int .i64 y.2.1.Initial),.d (.bool y.2.1.High)],.d (.int .i64 y.2.2)]) ?_ h
 unfold r47_moves
 simp only [List.replicate,List.length,nS,nA,Tryz.ntmps45,SV]
 refine .sR fun e h=>?_
 simp only [seval,EMW,zero_25]
 refine mU e (.seqK (.bind fun y1 hy1=>.bind fun y2 hy2=>.bind fun y3 hy3=>.regionD [] (by kernel_rfl) fun e h=>?_)) h
 simp only [seval,EMW,SB,ag_32,sz_32,fld_27_0,sz_2,ag_2,fld_23_1]
 refine Spec.by (r47_coordinate_spec hy1) (by simp only [seval,FMW]) ?_
 simp only [seval,EMW,SB,ag_32,sz_32,fld_27_1,sz_2,ag_2,fld_23_1]
 refine Spec.by (r47_coordinate_spec hy2) (by simp only [seval,FMW]) ?_
 simp only [seval,EMW,SB,ag_32,sz_32,fld_27_2,sz_2,ag_2,fld_23_1]
 refine Spec.by (r47_coordinate_spec hy3) (by simp only [seval,FMW]) ?_
 simp only [seval,EMW,SB,zero_27,pl_27,sz_27]
 refine mU e (.seqK (.seqK (.bind fun y4 hy4=>.region fun e h=>?_))) h
 simp only [seval,EMW,fld_23_0,sz_2,ag_2]
 refine SpecS.by (r47_Drills_spec hy4) (by simp only [seval,FMW]) ?_
 simp only [seval,EMW]
 refine mU e (.cond rfl (fun hb12=>?_) (fun hb12=>?_)) h
 refine .sR fun e h=>?_
 simp only [seval,EMW,fld_29_1,sz_25,fld_25_5,sz_2,ag_2]
 refine mU e (.seqK (.sR fun e h=>?_)) h
 simp only [seval,EMW,fld_29_1,sz_25,ag_25,zero_25,pl_25,gE_25]
 refine mU e (Mir.joinO (fun v1 : Int=>([U,U,U,U,.ptr 0 0,.ptr 1 0,.ptr 2 0,.ptr 3 0,U,.ptr 4 0,U,.ptr 5 0,.d (.int .i64 v1)] ++ us 114)) (fun v1=>⟨[[.d (.int .i64 a0.State.Motion),.d (.int .i64 a0.State.Distance),.d (.int .i64 a0.State.Work),.d (.int .i64 a0.State.Length),.d (.int .i64 a0.State.Return),.d (.int .i64 a0.State.Feed),.d (.int .i64 a0.State.Tool),.d (.int .i64 a0.State.Offset),.d (.int .i64 a0.Cycle.Code),.d (.int .i64 a0.Cycle.R),.d (.int .i64 a0.Cycle.Z),.d (.int .i64 a0.Cycle.Q),.d (.int .i64 a0.Cycle.Rate),.d (.int .i64 a0.Cycle.Initial),.d (.bool a0.Cycle.High),.d (.int .i64 a0.At.X),.d (.int .i64 a0.At.Y),.d (.int .i64 a0.At.Z)],[.d (.int .i64 a1.Motion),.d (.int .i64 a1.Distance),.d (.int .i64 a1.Work),.d (.int .i64 a1.Length),.d (.int .i64 a1.Return),.d (.int .i64 a1.Feed),.d (.int .i64 a1.Tool),.d (.int .i64 a1.Offset)],[.d (.bool a2.Skip),.d (.list (List.map encApiWord a2.Words)),.d (.str a2.Comment)],[.d (.int .i64 a3.X),.d (.int .i64 a3.Y),.d (.int .i64 a3.Z)],[.d (.int .i64 0),.d (.int .i64 0),.d (.int .i64 0),.d (.int .i64 0),.d (.int .i64 0),.d (.int .i64 0),.d (.bool false)],[.d (.int .i64 y1),.d (.int .i64 y2),.d (.int .i64 y3)]],[]⟩) (fun _=>rfl) ?_ ?_) h
 refine .cond rfl (fun hb14=>?_) (fun hb14=>?_)
 refine .region fun e h=>?_
 simp only [seval,EMW,fld_27_2,sz_2,ag_2]
 cases h
 simp only [seval,FMW,Tryz.results45,ag_25,sz_25]
 refine .skip fun e h=>?_
 cases h
 simp only [seval,FMW,Tryz.results45,ag_25,sz_25]
 intro v1
 refine Mir.toK (.seqK (.bind fun y5 hy15=>.region fun e h=>?_))
 simp only [seval,EMW,ag_32,sz_32,fld_23_0,sz_2,ag_2,fld_23_5,fld_23_4,fld_29_1,sz_25,ag_25]
 refine SpecS.by (r44_Read_spec hy15) (by simp only [seval,FMW]) ?_
 simp only [seval,EMW,zero_25,sz_25]
 refine mU e (.seqK (.sR fun e h=>?_)) h
 simp only [seval,EMW]
 refine mU e (.cond rfl (fun hb17=>?_) (fun hb17=>?_)) h
 refine .sR fun e h=>?_
 simp only [seval,EMW,zero_25,pl_25,sz_25]
 refine mU e (.ret fun e h=>?_) h
 cases h
 simp only [seval,FMW,Tryz.results45,ag_25,sz_25]
 refine .skip (Mir.toK (.seqK (.bind fun y6 hy18=>.region fun e h=>?_)))
 simp only [seval,EMW,ag_25,sz_25,ag_27,sz_27,fld_27_0,sz_2,ag_2,fld_27_1,zero_109,pl_109,und_145,sz_109,(oL 2)]
 refine SpecS.by (r44_Expand_spec hy18) (by simp only [seval,FMW]) ?_
 simp only [seval,EMW]
 refine mU e (.seqK (.regionD [] (by kernel_rfl) fun e h=>?_)) h
 simp only [seval,EMW,SB,ag_25,sz_25]
 refine mU e (.ret fun e h=>?_) h
 cases h
 simp only [seval,FMW,Tryz.results45,ag_25,sz_25]
 refine .skip (Mir.toK (.sR fun e h=>?_))
 simp only [seval,EMW,ag_27,sz_27,zero_111,pl_111,sz_111]
 refine mU e (.seqK (.sR fun e h=>?_)) h
 simp only [seval,EMW,fld_23_0,sz_2,ag_2]
 refine mU e (Mir.joinO (fun v2 : ApiMove=>([U,U,U,U,U,.ptr 1 0,.ptr 2 0,.ptr 3 0,U,.ptr 4 0,U,U,U,U,U,U,.ptr 6 0] ++ us 110)) (fun v2=>⟨[[.d (.int .i64 a0.State.Motion),.d (.int .i64 a0.State.Distance),.d (.int .i64 a0.State.Work),.d (.int .i64 a0.State.Length),.d (.int .i64 a0.State.Return),.d (.int .i64 a0.State.Feed),.d (.int .i64 a0.State.Tool),.d (.int .i64 a0.State.Offset),.d (.int .i64 a0.Cycle.Code),.d (.int .i64 a0.Cycle.R),.d (.int .i64 a0.Cycle.Z),.d (.int .i64 a0.Cycle.Q),.d (.int .i64 a0.Cycle.Rate),.d (.int .i64 a0.Cycle.Initial),.d (.bool a0.Cycle.High),.d (.int .i64 a0.At.X),.d (.int .i64 a0.At.Y),.d (.int .i64 a0.At.Z)],[.d (.int .i64 a1.Motion),.d (.int .i64 a1.Distance),.d (.int .i64 a1.Work),.d (.int .i64 a1.Length),.d (.int .i64 a1.Return),.d (.int .i64 a1.Feed),.d (.int .i64 a1.Tool),.d (.int .i64 a1.Offset)],[.d (.bool a2.Skip),.d (.list (List.map encApiWord a2.Words)),.d (.str a2.Comment)],[.d (.int .i64 a3.X),.d (.int .i64 a3.Y),.d (.int .i64 a3.Z)],[.d (.int .i64 0),.d (.int .i64 0),.d (.int .i64 0),.d (.int .i64 0),.d (.int .i64 0),.d (.int .i64 0),.d (.bool false)],[.d (.int .i64 y1),.d (.int .i64 y2),.d (.int .i64 y3)],[.d (.int .i64 v2.Kind),.d (.int .i64 v2.To.X),.d (.int .i64 v2.To.Y),.d (.int .i64 v2.To.Z),.d (.int .i64 v2.Center.X),.d (.int .i64 v2.Center.Y),.d (.int .i64 v2.Rate)]],[]⟩) (fun _=>rfl) ?_ ?_) h
 refine .cond rfl (fun hb20=>?_) (fun hb20=>?_)
 refine .regionD [(88,90)] (by kernel_rfl) fun e h=>?_
 simp only [seval,EMW,SB,fld_23_5,sz_2,ag_2,fld_111_0,sz_3,fld_111_3]
 cases h
 simp only [seval,FMW,Tryz.results45,ag_25,sz_25]
 refine .skip fun e h=>?_
 cases h
 simp only [seval,FMW,Tryz.results45,ag_25,sz_25]
 intro v2
 refine Mir.toK (.seqK (.seqK (.joinV ([U,U,U,U,U,.ptr 1 0,.ptr 2 0,.ptr 3 0,U,.ptr 4 0,U,U,U,U,U,U,.ptr 6 0,U,U,U,U,U,U,U,U,U,U,U,U,U,U,U,U,U,U,U,U,U,U,U,U,U,U,U,U,U,U,U,U,U,U,U,U,U,U,U,U,U,U,U,U,U,U,U,U,U,U,U,U,U,U,U,U,U,U,U,U,U,U,U,U,U,U,U,U,U,U,U,U,U,U,U,U,U,U,U,U,U,U,.d (.bool ((a1.Motion == 2000) || (a1.Motion == 3000)))] ++ us 27) ⟨[[.d (.int .i64 a0.State.Motion),.d (.int .i64 a0.State.Distance),.d (.int .i64 a0.State.Work),.d (.int .i64 a0.State.Length),.d (.int .i64 a0.State.Return),.d (.int .i64 a0.State.Feed),.d (.int .i64 a0.State.Tool),.d (.int .i64 a0.State.Offset),.d (.int .i64 a0.Cycle.Code),.d (.int .i64 a0.Cycle.R),.d (.int .i64 a0.Cycle.Z),.d (.int .i64 a0.Cycle.Q),.d (.int .i64 a0.Cycle.Rate),.d (.int .i64 a0.Cycle.Initial),.d (.bool a0.Cycle.High),.d (.int .i64 a0.At.X),.d (.int .i64 a0.At.Y),.d (.int .i64 a0.At.Z)],[.d (.int .i64 a1.Motion),.d (.int .i64 a1.Distance),.d (.int .i64 a1.Work),.d (.int .i64 a1.Length),.d (.int .i64 a1.Return),.d (.int .i64 a1.Feed),.d (.int .i64 a1.Tool),.d (.int .i64 a1.Offset)],[.d (.bool a2.Skip),.d (.list (List.map encApiWord a2.Words)),.d (.str a2.Comment)],[.d (.int .i64 a3.X),.d (.int .i64 a3.Y),.d (.int .i64 a3.Z)],[.d (.int .i64 0),.d (.int .i64 0),.d (.int .i64 0),.d (.int .i64 0),.d (.int .i64 0),.d (.int .i64 0),.d (.bool false)],[.d (.int .i64 y1),.d (.int .i64 y2),.d (.int .i64 y3)],[.d (.int .i64 v2.Kind),.d (.int .i64 v2.To.X),.d (.int .i64 v2.To.Y),.d (.int .i64 v2.To.Z),.d (.int .i64 v2.Center.X),.d (.int .i64 v2.Center.Y),.d (.int .i64 v2.Rate)]],[]⟩ rfl ?_ ?_)))
 refine SWs.region ?_
 rcases Bool.eq_false_or_eq_true (a1.Motion == 2000) with hb21 | hb21
 simp only [seval,EMW,SL,PB,fld_23_0,sz_2,ag_2,hb21]
 simp only [seval,EMW,SL,PB,fld_23_0,sz_2,ag_2,hb21]
 refine Mir.toK (Mir.join (fun v4 : ApiMove=>([U,U,U,U,U,U,U,U,U,.ptr 4 0,U,U,U,U,U,U,.ptr 6 0] ++ us 110)) (fun v4=>⟨[[.d (.int .i64 a0.State.Motion),.d (.int .i64 a0.State.Distance),.d (.int .i64 a0.State.Work),.d (.int .i64 a0.State.Length),.d (.int .i64 a0.State.Return),.d (.int .i64 a0.State.Feed),.d (.int .i64 a0.State.Tool),.d (.int .i64 a0.State.Offset),.d (.int .i64 a0.Cycle.Code),.d (.int .i64 a0.Cycle.R),.d (.int .i64 a0.Cycle.Z),.d (.int .i64 a0.Cycle.Q),.d (.int .i64 a0.Cycle.Rate),.d (.int .i64 a0.Cycle.Initial),.d (.bool a0.Cycle.High),.d (.int .i64 a0.At.X),.d (.int .i64 a0.At.Y),.d (.int .i64 a0.At.Z)],[.d (.int .i64 a1.Motion),.d (.int .i64 a1.Distance),.d (.int .i64 a1.Work),.d (.int .i64 a1.Length),.d (.int .i64 a1.Return),.d (.int .i64 a1.Feed),.d (.int .i64 a1.Tool),.d (.int .i64 a1.Offset)],[.d (.bool a2.Skip),.d (.list (List.map encApiWord a2.Words)),.d (.str a2.Comment)],[.d (.int .i64 a3.X),.d (.int .i64 a3.Y),.d (.int .i64 a3.Z)],[.d (.int .i64 0),.d (.int .i64 0),.d (.int .i64 0),.d (.int .i64 0),.d (.int .i64 0),.d (.int .i64 0),.d (.bool false)],[.d (.int .i64 y1),.d (.int .i64 y2),.d (.int .i64 y3)],[.d (.int .i64 v4.Kind),.d (.int .i64 v4.To.X),.d (.int .i64 v4.To.Y),.d (.int .i64 v4.To.Z),.d (.int .i64 v4.Center.X),.d (.int .i64 v4.Center.Y),.d (.int .i64 v4.Rate)]],[]⟩) (fun _=>rfl) ?_ ?_)
 refine .cond rfl (fun hb29=>?_) (fun hb29=>?_)
 refine .sR fun e h=>?_
 simp only [seval,EMW,fld_111_0,sz_3]
 refine mU e (.seqK (.sR fun e h=>?_)) h
 simp only [seval,EMW,fld_23_0,sz_2,ag_2]
 refine mU e (Mir.joinO (fun v3 : Int=>([U,U,U,U,U,U,.ptr 2 0,.ptr 3 0,U,.ptr 4 0,U,U,U,U,U,U,.ptr 6 0] ++ us 110)) (fun v3=>⟨[[.d (.int .i64 a0.State.Motion),.d (.int .i64 a0.State.Distance),.d (.int .i64 a0.State.Work),.d (.int .i64 a0.State.Length),.d (.int .i64 a0.State.Return),.d (.int .i64 a0.State.Feed),.d (.int .i64 a0.State.Tool),.d (.int .i64 a0.State.Offset),.d (.int .i64 a0.Cycle.Code),.d (.int .i64 a0.Cycle.R),.d (.int .i64 a0.Cycle.Z),.d (.int .i64 a0.Cycle.Q),.d (.int .i64 a0.Cycle.Rate),.d (.int .i64 a0.Cycle.Initial),.d (.bool a0.Cycle.High),.d (.int .i64 a0.At.X),.d (.int .i64 a0.At.Y),.d (.int .i64 a0.At.Z)],[.d (.int .i64 a1.Motion),.d (.int .i64 a1.Distance),.d (.int .i64 a1.Work),.d (.int .i64 a1.Length),.d (.int .i64 a1.Return),.d (.int .i64 a1.Feed),.d (.int .i64 a1.Tool),.d (.int .i64 a1.Offset)],[.d (.bool a2.Skip),.d (.list (List.map encApiWord a2.Words)),.d (.str a2.Comment)],[.d (.int .i64 a3.X),.d (.int .i64 a3.Y),.d (.int .i64 a3.Z)],[.d (.int .i64 0),.d (.int .i64 0),.d (.int .i64 0),.d (.int .i64 0),.d (.int .i64 0),.d (.int .i64 0),.d (.bool false)],[.d (.int .i64 y1),.d (.int .i64 y2),.d (.int .i64 y3)],[.d (.int .i64 v3),.d (.int .i64 v2.To.X),.d (.int .i64 v2.To.Y),.d (.int .i64 v2.To.Z),.d (.int .i64 v2.Center.X),.d (.int .i64 v2.Center.Y),.d (.int .i64 v2.Rate)]],[]⟩) (fun _=>rfl) ?_ ?_) h
 refine .cond rfl (fun hb31=>?_) (fun hb31=>?_)
 refine .region fun e h=>?_
 simp only [seval,EMW,fld_111_0,sz_3]
 cases h
 simp only [seval,FMW,Tryz.results45,ag_25,sz_25]
 refine .skip fun e h=>?_
 cases h
 simp only [seval,FMW,Tryz.results45,ag_25,sz_25]
 intro v3
 refine Mir.toK (.seqK (.bind fun y7 hy32=>.bind fun y8 hy33=>.regionD [] (by kernel_rfl) fun e h=>?_))
 simp only [seval,EMW,SB,fld_27_0,sz_2,ag_2,ag_32,sz_32]
 refine Spec.by (r47_value_spec hy32) (by simp only [seval,FMW]) ?_
 simp only [seval,EMW,SB,fld_27_1,sz_2,ag_2,ag_32,sz_32]
 refine Spec.by (r47_value_spec hy33) (by simp only [seval,FMW]) ?_
 simp only [seval,EMW,SB,zero_109,pl_109,fld_111_2,sz_109]
 refine mU e (.seqK (.bind fun y9 hy34=>.region fun e h=>?_)) h
 simp only [seval,EMW,ag_27,sz_27,ag_111,sz_111]
 refine SpecS.by (r33_Valid_spec hy34) (by simp only [seval,FMW]) ?_
 simp only [seval,EMW]
 refine mU e (.sR fun e h=>?_) h
 simp only [seval,EMW]
 refine mU e (.cond rfl (fun hb35=>?_) (fun hb35=>?_)) h
 refine .sR fun e h=>?_
 simp only [seval,EMW,zero_25,pl_25,sz_25]
 refine mU e (.ret fun e h=>?_) h
 cases h
 simp only [seval,FMW,Tryz.results45,ag_25,sz_25]
 refine .skip fun e h=>?_
 cases h
 simp only [seval,FMW,Tryz.results45,ag_25,sz_25]
 refine .skip fun e h=>?_
 cases h
 simp only [seval,FMW,Tryz.results45,ag_25,sz_25]
 intro v4
 refine Mir.toK (.sR fun e h=>?_)
 simp only [seval,EMW,ag_111,sz_111,und_102,zero_111,(oL 7),zero_25,pl_25,sz_25]
 refine mU e (.ret fun e h=>?_) h
 cases h
 simp only [seval,FMW,Tryz.results45,ag_25,sz_25]
def r33_Quarters (a0 : ApiPos) (a1 : ApiMove) : Option (Int × Int) := bindO (r33_arc a1) fun (y1 : Bool)=>if (!y1) = true then some (0,1) else bindO (r33_Valid a0 a1) fun (y2 : Int)=>if (y2 != 0) = true then some (0,y2) else bindO (r33_quadrant (IntKind.i64.wrap (a0.X - a1.Center.X)) (IntKind.i64.wrap (a0.Y - a1.Center.Y))) fun (y3 : Int × Int)=>bindO (r33_quadrant (IntKind.i64.wrap (a1.To.X - a1.Center.X)) (IntKind.i64.wrap (a1.To.Y - a1.Center.Y))) fun (y4 : Int × Int)=>bindO (if (a1.Kind == 3) = true then some (IntKind.i64.wrap (y3.1 - y4.1)) else some (IntKind.i64.wrap (y4.1 - y3.1))) fun (v1 : Int)=>some (IntKind.i64.wrap ((Int.tmod (IntKind.i64.wrap (v1 + 7)) 4) + 1),0)
theorem r33_Quarters_spec {a0 : ApiPos} {a1 : ApiMove} {y : Int × Int} (h : r33_Quarters a0 a1 = some y) : Spec gP 106 [.agg [.d (.int .i64 a0.X),.d (.int .i64 a0.Y),.d (.int .i64 a0.Z)],.agg [.d (.int .i64 a1.Kind),.d (.int .i64 a1.To.X),.d (.int .i64 a1.To.Y),.d (.int .i64 a1.To.Z),.d (.int .i64 a1.Center.X),.d (.int .i64 a1.Center.Y),.d (.int .i64 a1.Rate)]] (.tuple [.d (.int .i64 y.1),.d (.int .i64 y.2)]) := by
 refine spec_mir Tryz.func106 rfl (by kernel_rfl) (by kernel_rfl) (fun y : Int × Int=>.tuple [.d (.int .i64 y.1),.d (.int .i64 y.2)]) ?_ h
 unfold r33_Quarters
 simp only [List.replicate,List.length,nS,nA,Tryz.ntmps106,SV]
 refine .sR fun e h=>?_
 simp only [seval,EMW]
 refine mU e (.seqK (.seqK (.bind fun y1 hy1=>.region fun e h=>?_))) h
 simp only [seval,EMW,ag_111,sz_111]
 refine SpecS.by (r33_arc_spec hy1) (by simp only [seval,FMW]) ?_
 simp only [seval,EMW]
 refine mU e (.cond rfl (fun hb3=>?_) (fun hb3=>?_)) h
 refine .sR fun e h=>?_
 simp only [seval,EMW]
 refine mU e (.ret fun e h=>?_) h
 cases h
 simp only [seval,FMW,Tryz.results106]
 refine .skip (Mir.toK (.seqK (.seqK (.bind fun y2 hy4=>.region fun e h=>?_))))
 simp only [seval,EMW,ag_27,sz_27,ag_111,sz_111]
 refine SpecS.by (r33_Valid_spec hy4) (by simp only [seval,FMW]) ?_
 simp only [seval,EMW]
 refine mU e (.sR fun e h=>?_) h
 simp only [seval,EMW]
 refine mU e (.cond rfl (fun hb6=>?_) (fun hb6=>?_)) h
 refine .sR fun e h=>?_
 simp only [seval,EMW]
 refine mU e (.ret fun e h=>?_) h
 cases h
 simp only [seval,FMW,Tryz.results106]
 refine .skip (Mir.toK (.seqK (.bind fun y3 hy7=>.region fun e h=>?_)))
 simp only [seval,EMW,fld_27_0,sz_2,ag_2,fld_111_2,sz_109,fld_109_0,fld_27_1,fld_109_1]
 refine SpecS.by (r33_quadrant_spec hy7) (by simp only [seval,FMW]) ?_
 simp only [seval,EMW]
 refine mU e (.seqK (.bind fun y4 hy8=>.region fun e h=>?_)) h
 simp only [seval,EMW,fld_111_1,sz_27,fld_27_0,sz_2,ag_2,fld_111_2,sz_109,fld_109_0,fld_27_1,fld_109_1]
 refine SpecS.by (r33_quadrant_spec hy8) (by simp only [seval,FMW]) ?_
 simp only [seval,EMW]
 refine mU e (.sR fun e h=>?_) h
 simp only [seval,EMW]
 refine mU e (.seqK (.sR fun e h=>?_)) h
 simp only [seval,EMW,fld_111_0,sz_3,ag_3]
 refine mU e (Mir.joinO (fun v1 : Int=>([U,U,U,U,U,U,U,U,U,U,U,.d (.int .i64 v1)] ++ us 56)) (fun v1=>⟨[[.d (.int .i64 a0.X),.d (.int .i64 a0.Y),.d (.int .i64 a0.Z)],[.d (.int .i64 a1.Kind),.d (.int .i64 a1.To.X),.d (.int .i64 a1.To.Y),.d (.int .i64 a1.To.Z),.d (.int .i64 a1.Center.X),.d (.int .i64 a1.Center.Y),.d (.int .i64 a1.Rate)]],[]⟩) (fun _=>rfl) ?_ ?_) h
 refine .cond rfl (fun hb10=>?_) (fun hb10=>?_)
 refine .region fun e h=>?_
 simp only [seval,EMW]
 cases h
 simp only [seval,FMW,Tryz.results106]
 refine .skip fun e h=>?_
 cases h
 simp only [seval,FMW,Tryz.results106]
 intro v1
 refine Mir.toK (.sR fun e h=>?_)
 simp only [seval,EMW]
 refine mU e (.ret fun e h=>?_) h
 cases h
 simp only [seval,FMW,Tryz.results106]
def r33_Chords (a0 : Int) : Option Int := if (decide (a0 ≤ 0)) = true then some 0 else bindO (loopX (fun (v1 : Int)=>if ((decide (v1 < 1000000000)) && (decide ((IntKind.i64.wrap ((IntKind.i64.wrap (10 * v1)) * v1)) < a0))) = true then some (.go (IntKind.i64.wrap (v1 + 1))) else some (.ret v1)) fuel 1) fun (v2 : Int)=>some v2
theorem r33_Chords_spec {a0 : Int} {y : Int} (h : r33_Chords a0 = some y) : Spec gP 107 [.d (.int .i64 a0)] (.d (.int .i64 y)) := by
 refine spec_mir Tryz.func107 rfl (by kernel_rfl) (by kernel_rfl) (fun y : Int=>.d (.int .i64 y)) ?_ h
 unfold r33_Chords
 simp only [List.replicate,List.length,nS,nA,Tryz.ntmps107,SV]
 refine .sR fun e h=>?_
 simp only [seval,EMW]
 refine mU e (.seqK (.sR fun e h=>?_)) h
 simp only [seval,EMW]
 refine mU e (.cond rfl (fun hb2=>?_) (fun hb2=>?_)) h
 refine .sR fun e h=>?_
 simp only [seval,EMW]
 refine mU e (.ret fun e h=>?_) h
 cases h
 simp only [seval,FMW,Tryz.results107]
 refine .skip (Mir.toK (.sR fun e h=>?_))
 simp only [seval,EMW]
 refine mU e (.seqK (Mir.joinO (fun v2 : Int=>([U,U,U,.d (.int .i64 v2)] ++ us 15)) (fun v2=>⟨[],[]⟩) (fun _=>rfl) ?_ ?_)) h
 refine .block (Mir.loop (fun v1 : Int=>([.d (.int .i64 a0),U,U,.d (.int .i64 v1)] ++ us 15)) (fun v1=>⟨[],[]⟩) (fun _=>rfl) (by simp only [seval,FMW]) (by simp only [seval,FMW]) fun v1=>.seqK (.seqK (.joinV [.d (.int .i64 a0),U,U,.d (.int .i64 v1),U,U,U,U,U,U,U,U,U,U,U,.d (.bool ((decide (v1 < 1000000000)) && (decide ((IntKind.i64.wrap ((IntKind.i64.wrap (10 * v1)) * v1)) < a0)))),U,U,U] ⟨[],[]⟩ rfl ?_ ?_)))
 refine SWs.region ?_
 rcases Bool.eq_false_or_eq_true (decide (v1 < 1000000000)) with hb18 | hb18
 simp only [seval,EMW,SL,PB,hb18]
 simp only [seval,EMW,SL,PB,hb18]
 refine Mir.toK (.cond rfl (fun hb20=>?_) (fun hb20=>?_))
 refine .skip (Mir.toK (.block (.region fun e h=>?_)))
 simp only [seval,EMW]
 cases h
 simp only [seval,FMW,Tryz.results107]
 refine .exit fun e h=>?_
 cases h
 simp only [seval,FMW,Tryz.results107]
 intro v2
 refine Mir.toK (.sR fun e h=>?_)
 simp only [seval,EMW]
 refine mU e (.ret fun e h=>?_) h
 cases h
 simp only [seval,FMW,Tryz.results107]
def r33_turned (a0 : Int) (a1 : Int) (a2 : Int) : Option (Int × Int) := bindO (loopX (fun (v1 : Int × Int × Int)=>if (decide (v1.2.2 < a2)) = true then some (.go (IntKind.i64.wrap (0 - v1.2.1),v1.1,IntKind.i64.wrap (v1.2.2 + 1))) else some (.ret (v1.1,v1.2.1))) fuel (a0,a1,0)) fun (v2 : Int × Int)=>some (v2.1,v2.2)
theorem r33_turned_spec {a0 : Int} {a1 : Int} {a2 : Int} {y : Int × Int} (h : r33_turned a0 a1 a2 = some y) : Spec gP 108 [.d (.int .i64 a0),.d (.int .i64 a1),.d (.int .i64 a2)] (.tuple [.d (.int .i64 y.1),.d (.int .i64 y.2)]) := by
 refine spec_mir Tryz.func108 rfl (by kernel_rfl) (by kernel_rfl) (fun y : Int × Int=>.tuple [.d (.int .i64 y.1),.d (.int .i64 y.2)]) ?_ h
 unfold r33_turned
 simp only [List.replicate,List.length,nS,nA,Tryz.ntmps108,SV]
 refine .sR fun e h=>?_
 simp only [seval,EMW]
 refine mU e (.seqK (.sR fun e h=>?_)) h
 simp only [seval,EMW]
 refine mU e (Mir.joinO (fun v2 : Int × Int=>([.d (.int .i64 v2.1),.d (.int .i64 v2.2)] ++ us 17)) (fun v2=>⟨[],[]⟩) (fun _=>rfl) ?_ ?_) h
 refine .block (Mir.loop (fun v1 : Int × Int × Int=>([.d (.int .i64 v1.1),.d (.int .i64 v1.2.1),.d (.int .i64 a2),U,U,U,U,U,.d (.int .i64 v1.2.2)] ++ us 10)) (fun v1=>⟨[],[]⟩) (fun _=>rfl) (by simp only [seval,FMW]) (by simp only [seval,FMW]) fun v1=>.seqK (.sR fun e h=>?_))
 simp only [seval,EMW]
 refine mU e (.cond rfl (fun hb12=>?_) (fun hb12=>?_)) h
 refine .skip (Mir.toK (.seqK (.block (.region fun e h=>?_))))
 simp only [seval,EMW]
 refine mU e (.region fun e h=>?_) h
 simp only [seval,EMW]
 cases h
 simp only [seval,FMW,Tryz.results108]
 refine .exit fun e h=>?_
 cases h
 simp only [seval,FMW,Tryz.results108]
 intro v2
 refine Mir.toK (.sR fun e h=>?_)
 simp only [seval,EMW]
 refine mU e (.ret fun e h=>?_) h
 cases h
 simp only [seval,FMW,Tryz.results108]
def r33_down (a0 : Int) (a1 : Int) : Option Int := guardO (!(a1 == 0)) ( guardO (!(a1 == 0)) ( bindO (if (decide ((Int.tmod a0 a1) < 0)) = true then some (IntKind.i64.wrap ((IntKind.i64.wrap (Int.tdiv a0 a1)) - 1)) else some (IntKind.i64.wrap (Int.tdiv a0 a1))) fun (v1 : Int)=>some v1))
theorem r33_down_spec {a0 : Int} {a1 : Int} {y : Int} (h : r33_down a0 a1 = some y) : Spec gP 109 [.d (.int .i64 a0),.d (.int .i64 a1)] (.d (.int .i64 y)) := by
 refine spec_mir Tryz.func109 rfl (by kernel_rfl) (by kernel_rfl) (fun y : Int=>.d (.int .i64 y)) ?_ h
 unfold r33_down
 simp only [List.replicate,List.length,nS,nA,Tryz.ntmps109,SV]
 refine .sR fun e h=>?_
 simp only [seval,EMW]
 refine mU e (.seqK (.guard fun q1=>?_)) h
 replace q1 := ne_of q1
 refine .region fun e h=>?_
 simp only [seval,EMW,q1]
 refine mU e (.seqK (.seqK (.guard fun q2=>?_))) h
 replace q2 := ne_of q2
 refine .region fun e h=>?_
 simp only [seval,EMW,q2]
 refine mU e (Mir.joinO (fun v1 : Int=>([U,U,U,U,U,.d (.int .i64 v1)] ++ us 10)) (fun v1=>⟨[],[]⟩) (fun _=>rfl) ?_ ?_) h
 refine .cond rfl (fun hb4=>?_) (fun hb4=>?_)
 refine .region fun e h=>?_
 simp only [seval,EMW]
 cases h
 simp only [seval,FMW,Tryz.results109]
 refine .skip fun e h=>?_
 cases h
 simp only [seval,FMW,Tryz.results109]
 intro v1
 refine Mir.toK (.sR fun e h=>?_)
 simp only [seval,EMW]
 refine mU e (.ret fun e h=>?_) h
 cases h
 simp only [seval,FMW,Tryz.results109]
def r33_Arc (a0 : ApiPos) (a1 : ApiMove) : Option ((List ApiPos) × Int) := bindO (r33_Quarters a0 a1) fun (y1 : Int × Int)=>if (y1.2 != 0) = true then some ([],y1.2) else bindO (r33_quadrant (IntKind.i64.wrap (a0.X - a1.Center.X)) (IntKind.i64.wrap (a0.Y - a1.Center.Y))) fun (y2 : Int × Int)=>bindO (r33_Chords y2.2) fun (y3 : Int)=>bindO (loopX (fun (v1 : (List ApiPos) × Int)=>if (decide (v1.2 < (IntKind.i64.wrap (y1.1 * y3)))) = true then guardO (!(y3 == 0)) ( guardO (!((IntKind.i64.wrap ((IntKind.i64.wrap (y3 * y3)) + (IntKind.i64.wrap ((IntKind.i64.wrap ((Int.tmod v1.2 y3) + 1)) * (IntKind.i64.wrap ((Int.tmod v1.2 y3) + 1)))))) == 0)) ( guardO (!((IntKind.i64.wrap ((IntKind.i64.wrap (y3 * y3)) + (IntKind.i64.wrap ((IntKind.i64.wrap ((Int.tmod v1.2 y3) + 1)) * (IntKind.i64.wrap ((Int.tmod v1.2 y3) + 1)))))) == 0)) ( guardO (!(y3 == 0)) ( bindO (if (a1.Kind == 3) = true then guardO (!(y3 == 0)) ( some (IntKind.i64.wrap (0 - (IntKind.i64.wrap (Int.tdiv (IntKind.i64.wrap ((IntKind.i64.wrap ((IntKind.i64.wrap (2 * y2.2)) * (IntKind.i64.wrap ((Int.tmod v1.2 y3) + 1)))) * y3)) (IntKind.i64.wrap ((IntKind.i64.wrap (y3 * y3)) + (IntKind.i64.wrap ((IntKind.i64.wrap ((Int.tmod v1.2 y3) + 1)) * (IntKind.i64.wrap ((Int.tmod v1.2 y3) + 1))))))))),IntKind.i64.wrap (y2.1 + (IntKind.i64.wrap (3 * (IntKind.i64.wrap (Int.tdiv v1.2 y3))))))) else some (IntKind.i64.wrap (Int.tdiv (IntKind.i64.wrap ((IntKind.i64.wrap ((IntKind.i64.wrap (2 * y2.2)) * (IntKind.i64.wrap ((Int.tmod v1.2 y3) + 1)))) * y3)) (IntKind.i64.wrap ((IntKind.i64.wrap (y3 * y3)) + (IntKind.i64.wrap ((IntKind.i64.wrap ((Int.tmod v1.2 y3) + 1)) * (IntKind.i64.wrap ((Int.tmod v1.2 y3) + 1))))))),IntKind.i64.wrap (y2.1 + (IntKind.i64.wrap (Int.tdiv v1.2 y3))))) fun (v2 : Int × Int)=>bindO (r33_turned (IntKind.i64.wrap (Int.tdiv (IntKind.i64.wrap (y2.2 * (IntKind.i64.wrap ((IntKind.i64.wrap (y3 * y3)) - (IntKind.i64.wrap ((IntKind.i64.wrap ((Int.tmod v1.2 y3) + 1)) * (IntKind.i64.wrap ((Int.tmod v1.2 y3) + 1)))))))) (IntKind.i64.wrap ((IntKind.i64.wrap (y3 * y3)) + (IntKind.i64.wrap ((IntKind.i64.wrap ((Int.tmod v1.2 y3) + 1)) * (IntKind.i64.wrap ((Int.tmod v1.2 y3) + 1)))))))) v2.1 (Int.tmod v2.2 4)) fun (y4 : Int × Int)=>bindO (r33_down (IntKind.i64.wrap ((IntKind.i64.wrap (a1.To.Z - a0.Z)) * (IntKind.i64.wrap (v1.2 + 1)))) (IntKind.i64.wrap (y1.1 * y3))) fun (y5 : Int)=>guardO (okLen (v1.1.length + 1)) ( some (.go (v1.1 ++ [ApiPos.mk (IntKind.i64.wrap (a1.Center.X + y4.1)) (IntKind.i64.wrap (a1.Center.Y + y4.2)) (IntKind.i64.wrap (a0.Z + y5))],IntKind.i64.wrap (v1.2 + 1)))))))) else some (.ret v1.1)) fuel ([],0)) fun (v3 : (List ApiPos))=>if (decide ((v3.length : Int) > 20000)) = true then some ([],3) else some (v3,0)
theorem r33_Arc_spec {a0 : ApiPos} {a1 : ApiMove} {y : (List ApiPos) × Int} (h : r33_Arc a0 a1 = some y) : Spec gP 81 [.agg [.d (.int .i64 a0.X),.d (.int .i64 a0.Y),.d (.int .i64 a0.Z)],.agg [.d (.int .i64 a1.Kind),.d (.int .i64 a1.To.X),.d (.int .i64 a1.To.Y),.d (.int .i64 a1.To.Z),.d (.int .i64 a1.Center.X),.d (.int .i64 a1.Center.Y),.d (.int .i64 a1.Rate)]] (.tuple [.d (.list (List.map encApiPos y.1)),.d (.int .i64 y.2)]) := by
 refine spec_mir Tryz.func81 rfl (by kernel_rfl) (by kernel_rfl) (fun y : (List ApiPos) × Int=>.tuple [.d (.list (List.map encApiPos y.1)),.d (.int .i64 y.2)]) ?_ h
 unfold r33_Arc
 simp only [List.replicate,List.length,nS,nA,Tryz.ntmps81,SV]
 refine .sR fun e h=>?_
 simp only [seval,EMW]
 refine mU e (.seqK (.bind fun y1 hy1=>.region fun e h=>?_)) h
 simp only [seval,EMW,ag_27,sz_27,ag_111,sz_111]
 refine SpecS.by (r33_Quarters_spec hy1) (by simp only [seval,FMW]) ?_
 simp only [seval,EMW]
 refine mU e (.seqK (.sR fun e h=>?_)) h
 simp only [seval,EMW]
 refine mU e (.cond rfl (fun hb3=>?_) (fun hb3=>?_)) h
 refine .sR fun e h=>?_
 simp only [seval,EMW]
 refine mU e (.ret fun e h=>?_) h
 cases h
 simp only [seval,FMW,Tryz.results81]
 refine .skip (Mir.toK (.seqK (.bind fun y2 hy4=>.region fun e h=>?_)))
 simp only [seval,EMW,fld_27_0,sz_2,ag_2,fld_111_2,sz_109,fld_109_0,fld_27_1,fld_109_1]
 refine SpecS.by (r33_quadrant_spec hy4) (by simp only [seval,FMW]) ?_
 simp only [seval,EMW]
 refine mU e (.seqK (.bind fun y3 hy5=>.region fun e h=>?_)) h
 simp only [seval,EMW]
 refine SpecS.by (r33_Chords_spec hy5) (by simp only [seval,FMW]) ?_
 simp only [seval,EMW]
 refine mU e (.sR fun e h=>?_) h
 simp only [seval,EMW]
 refine mU e (.sR fun e h=>?_) h
 simp only [seval,EMW]
 refine mU e (.seqK (.sR fun e h=>?_)) h
 simp only [seval,EMW]
 refine mU e (.gh [.slot 12 27] rfl (Mir.joinO (fun v3 : (List ApiPos)=>([U,U,U,U,U,U,U,U,U,U,U,U,.own 0 (List.map encApiPos v3)] ++ us 133)) (fun v3=>⟨[[.d (.int .i64 a0.X),.d (.int .i64 a0.Y),.d (.int .i64 a0.Z)],[.d (.int .i64 a1.Kind),.d (.int .i64 a1.To.X),.d (.int .i64 a1.To.Y),.d (.int .i64 a1.To.Z),.d (.int .i64 a1.Center.X),.d (.int .i64 a1.Center.Y),.d (.int .i64 a1.Rate)]],[(27,v3.length)]⟩) (fun _=>rfl) ?_ ?_)) h
 refine .block (Mir.loop (fun v1 : (List ApiPos) × Int=>([U,U,.ptr 0 0,.ptr 1 0,U,U,U,U,.d (.int .i64 y2.1),.d (.int .i64 y2.2),.d (.int .i64 y3),.d (.int .i64 (IntKind.i64.wrap (y1.1 * y3))),.own 0 (List.map encApiPos v1.1),.d (.int .i64 v1.2)] ++ us 132)) (fun v1=>⟨[[.d (.int .i64 a0.X),.d (.int .i64 a0.Y),.d (.int .i64 a0.Z)],[.d (.int .i64 a1.Kind),.d (.int .i64 a1.To.X),.d (.int .i64 a1.To.Y),.d (.int .i64 a1.To.Z),.d (.int .i64 a1.Center.X),.d (.int .i64 a1.Center.Y),.d (.int .i64 a1.Rate)]],[(27,v1.1.length)]⟩) (fun _=>rfl) (by simp only [seval,FMW]) (by simp only [seval,FMW]) fun v1=>.seqK (.sR fun e h=>?_))
 simp only [seval,EMW]
 refine mU e (.cond rfl (fun h1=>?_) (fun h1=>?_)) h
 refine .skip (Mir.toK (.seqK (.block (.seqK (.guard fun q1=>?_)))))
 replace q1 := ne_of q1
 refine .region fun e h=>?_
 simp only [seval,EMW,q1]
 refine mU e (.seqK (.guard fun q2=>?_)) h
 replace q2 := ne_of q2
 refine .guard fun q3=>?_
 replace q3 := ne_of q3
 refine .regionD [] (by kernel_rfl) fun e h=>?_
 simp only [seval,EMW,SB,q2,q3]
 refine mU e (.seqK (.guard fun q4=>?_)) h
 replace q4 := ne_of q4
 refine .region fun e h=>?_
 simp only [seval,EMW,q4]
 refine mU e (.seqK (.sR fun e h=>?_)) h
 simp only [seval,EMW,fld_111_0,sz_3,ag_3]
 refine mU e (Mir.joinO (fun v2 : Int × Int=>([U,U,.ptr 0 0,.ptr 1 0,U,U,U,U,.d (.int .i64 y2.1),.d (.int .i64 y2.2),.d (.int .i64 y3),.d (.int .i64 (IntKind.i64.wrap (y1.1 * y3))),.own 0 (List.map encApiPos v1.1),.d (.int .i64 v1.2),U,.d (.int .i64 (IntKind.i64.wrap (Int.tdiv (IntKind.i64.wrap (y2.2 * (IntKind.i64.wrap ((IntKind.i64.wrap (y3 * y3)) - (IntKind.i64.wrap ((IntKind.i64.wrap ((Int.tmod v1.2 y3) + 1)) * (IntKind.i64.wrap ((Int.tmod v1.2 y3) + 1)))))))) (IntKind.i64.wrap ((IntKind.i64.wrap (y3 * y3)) + (IntKind.i64.wrap ((IntKind.i64.wrap ((Int.tmod v1.2 y3) + 1)) * (IntKind.i64.wrap ((Int.tmod v1.2 y3) + 1))))))))),.d (.int .i64 v2.1),.d (.int .i64 v2.2)] ++ us 128)) (fun v2=>⟨[[.d (.int .i64 a0.X),.d (.int .i64 a0.Y),.d (.int .i64 a0.Z)],[.d (.int .i64 a1.Kind),.d (.int .i64 a1.To.X),.d (.int .i64 a1.To.Y),.d (.int .i64 a1.To.Z),.d (.int .i64 a1.Center.X),.d (.int .i64 a1.Center.Y),.d (.int .i64 a1.Rate)]],[(27,v1.1.length)]⟩) (fun _=>rfl) ?_ ?_) h
 refine .cond rfl (fun h2=>?_) (fun h2=>?_)
 refine .sR fun e h=>?_
 simp only [seval,EMW]
 refine mU e (.guard fun q5=>?_) h
 replace q5 := ne_of q5
 refine .region fun e h=>?_
 simp only [seval,EMW,q5]
 cases h
 simp only [seval,FMW,Tryz.results81]
 refine .skip fun e h=>?_
 cases h
 simp only [seval,FMW,Tryz.results81]
 intro v2
 refine Mir.toK (.seqK (.bind fun y4 h3=>.region fun e h=>?_))
 simp only [seval,EMW]
 refine SpecS.by (r33_turned_spec h3) (by simp only [seval,FMW]) ?_
 simp only [seval,EMW]
 refine mU e (.bind fun y5 h4=>.guard fun q6=>.regionD [] (by kernel_rfl) fun e h=>?_) h
 simp only [seval,EMW,SB,fld_111_2,sz_109,fld_109_0,sz_2,ag_2,fld_109_1,fld_27_2,fld_111_1,sz_27]
 refine Spec.by (r33_down_spec h4) (by simp only [seval,FMW]) ?_
 simp only [seval,EMW,SB,zero_27,pl_27,und_105,sz_27,(oL 3),app_105,al_ApiPos,q6]
 refine mU e (.region fun e h=>?_) h
 simp only [seval,EMW]
 cases h
 simp only [seval,FMW,Tryz.results81]
 refine .exit fun e h=>?_
 cases h
 simp only [seval,FMW,Tryz.results81]
 intro v3
 refine Mir.toK (.seqK (.sR fun e h=>?_))
 simp only [seval,EMW,und_105]
 refine mU e (.cond rfl (fun h5=>?_) (fun h5=>?_)) h
 refine .sR fun e h=>?_
 simp only [seval,EMW]
 refine mU e (.ret fun e h=>?_) h
 cases h
 simp only [seval,FMW,Tryz.results81]
 refine .skip (Mir.toK (.sR fun e h=>?_))
 simp only [seval,EMW]
 refine mU e (.ret fun e h=>?_) h
 cases h
 simp only [seval,FMW,Tryz.results81]
def r47_positions (a0 : ApiPos) (a1 : ApiMove) : Option ((List ApiPos) × Int) := if ((a1.Kind != 3) && (a1.Kind != 4)) = true then some ([a1.To],0) else bindO (r33_Arc a0 a1) fun (y1 : (List ApiPos) × Int)=>some (y1.1,y1.2)
theorem r47_positions_spec {a0 : ApiPos} {a1 : ApiMove} {y : (List ApiPos) × Int} (h : r47_positions a0 a1 = some y) : Spec gP 46 [.agg [.d (.int .i64 a0.X),.d (.int .i64 a0.Y),.d (.int .i64 a0.Z)],.agg [.d (.int .i64 a1.Kind),.d (.int .i64 a1.To.X),.d (.int .i64 a1.To.Y),.d (.int .i64 a1.To.Z),.d (.int .i64 a1.Center.X),.d (.int .i64 a1.Center.Y),.d (.int .i64 a1.Rate)]] (.tuple [.d (.list (List.map encApiPos y.1)),.d (.int .i64 y.2)]) := by
 refine spec_mir Tryz.func46 rfl (by kernel_rfl) (by kernel_rfl) (fun y : (List ApiPos) × Int=>.tuple [.d (.list (List.map encApiPos y.1)),.d (.int .i64 y.2)]) ?_ h
 unfold r47_positions
 simp only [List.replicate,List.length,nS,nA,Tryz.ntmps46,SV]
 refine .sR fun e h=>?_
 simp only [seval,EMW]
 refine mU e (.seqK (.seqK (.joinV ([U,U,.ptr 0 0,.ptr 1 0,U,U,U,U,U,U,U,U,U,.d (.bool ((a1.Kind != 3) && (a1.Kind != 4)))] ++ us 8) ⟨[[.d (.int .i64 a0.X),.d (.int .i64 a0.Y),.d (.int .i64 a0.Z)],[.d (.int .i64 a1.Kind),.d (.int .i64 a1.To.X),.d (.int .i64 a1.To.Y),.d (.int .i64 a1.To.Z),.d (.int .i64 a1.Center.X),.d (.int .i64 a1.Center.Y),.d (.int .i64 a1.Rate)]],[]⟩ rfl ?_ ?_))) h
 refine SWs.region ?_
 rcases Bool.eq_false_or_eq_true (a1.Kind != 3) with hb1 | hb1
 simp only [seval,EMW,SL,PB,fld_111_0,sz_3,ag_3,hb1]
 simp only [seval,EMW,SL,PB,fld_111_0,sz_3,ag_3,hb1]
 refine Mir.toK (.cond rfl (fun hb3=>?_) (fun hb3=>?_))
 refine .sR fun e h=>?_
 simp only [seval,EMW,fld_111_1,sz_27,ag_27,und_105,zero_27,(oL 3)]
 refine mU e (.ret fun e h=>?_) h
 cases h
 simp only [seval,FMW,Tryz.results46]
 refine .skip (Mir.toK (.seqK (.bind fun y1 hy4=>.region fun e h=>?_)))
 simp only [seval,EMW,ag_27,sz_27,ag_111,sz_111]
 refine SpecS.by (r33_Arc_spec hy4) (by simp only [seval,FMW]) ?_
 simp only [seval,EMW]
 refine mU e (.ret fun e h=>?_) h
 cases h
 simp only [seval,FMW,Tryz.results46]
def r45_Machine (a0 : R45Table) (a1 : Int) (a2 : Int) (a3 : ApiPos) : Option (ApiPos × Int) := bindO (r45_move a0 a1 a2 a3 1) fun (y1 : ApiPos × Int)=>some (y1.1,y1.2)
theorem r45_Machine_spec {a0 : R45Table} {a1 : Int} {a2 : Int} {a3 : ApiPos} {y : ApiPos × Int} (h : r45_Machine a0 a1 a2 a3 = some y) : Spec gP 47 [.agg [.d (.int .i64 a0.Work.e0.X),.d (.int .i64 a0.Work.e0.Y),.d (.int .i64 a0.Work.e0.Z),.d (.int .i64 a0.Work.e1.X),.d (.int .i64 a0.Work.e1.Y),.d (.int .i64 a0.Work.e1.Z),.d (.int .i64 a0.Work.e2.X),.d (.int .i64 a0.Work.e2.Y),.d (.int .i64 a0.Work.e2.Z),.d (.int .i64 a0.Work.e3.X),.d (.int .i64 a0.Work.e3.Y),.d (.int .i64 a0.Work.e3.Z),.d (.int .i64 a0.Work.e4.X),.d (.int .i64 a0.Work.e4.Y),.d (.int .i64 a0.Work.e4.Z),.d (.int .i64 a0.Work.e5.X),.d (.int .i64 a0.Work.e5.Y),.d (.int .i64 a0.Work.e5.Z),.d (.list (List.map encR45Length a0.Lengths))],.d (.int .i64 a1),.d (.int .i64 a2),.agg [.d (.int .i64 a3.X),.d (.int .i64 a3.Y),.d (.int .i64 a3.Z)]] (.tuple [.agg [.d (.int .i64 y.1.X),.d (.int .i64 y.1.Y),.d (.int .i64 y.1.Z)],.d (.int .i64 y.2)]) := by
 refine spec_mir Tryz.func47 rfl (by kernel_rfl) (by kernel_rfl) (fun y : ApiPos × Int=>.tuple [.agg [.d (.int .i64 y.1.X),.d (.int .i64 y.1.Y),.d (.int .i64 y.1.Z)],.d (.int .i64 y.2)]) ?_ h
 unfold r45_Machine
 simp only [List.replicate,List.length,nS,nA,Tryz.ntmps47,SV]
 refine .sR fun e h=>?_
 simp only [seval,EMW,zero_27]
 refine mU e (.seqK (.bind fun y1 hy1=>.region fun e h=>?_)) h
 simp only [seval,EMW,ag_36,sz_36,ag_27,sz_27]
 refine SpecS.by (r45_move_spec hy1) (by simp only [seval,FMW]) ?_
 simp only [seval,EMW,sz_27]
 refine mU e (.ret fun e h=>?_) h
 cases h
 simp only [seval,FMW,Tryz.results47,ag_27,sz_27]
def r47_Step (a0 : R47Machine) (a1 : ApiBlock) (a2 : R45Table) (a3 : Int) : Option ((List ApiMotion) × R47Machine × Int) := bindO (r45_Valid a2) fun (y1 : Int)=>if (y1 != 0) = true then some ([],R47Machine.mk (R42State.mk 0 0 0 0 0 0 0 0) (R44Cycle.mk 0 0 0 0 0 0 false) (ApiPos.mk 0 0 0),1) else bindO (r47_InRange a0.At) fun (y2 : Bool)=>if (!y2) = true then some ([],R47Machine.mk (R42State.mk 0 0 0 0 0 0 0 0) (R44Cycle.mk 0 0 0 0 0 0 false) (ApiPos.mk 0 0 0),11) else bindO (r47_known a1) fun (y3 : Bool)=>if (!y3) = true then some ([],R47Machine.mk (R42State.mk 0 0 0 0 0 0 0 0) (R44Cycle.mk 0 0 0 0 0 0 false) (ApiPos.mk 0 0 0),1) else bindO (r42_Apply a0.State (ApiBlock.mk a1.Skip a1.Words a1.Comment)) fun (y4 : R42State × Int)=>bindO (r47_Drills y4.1.Motion) fun (y5 : Bool)=>bindO (if y5 = true then some (R47Machine.mk y4.1 a0.Cycle a0.At) else some (R47Machine.mk y4.1 (R44Cycle.mk 0 0 0 0 0 0 false) a0.At)) fun (v1 : R47Machine)=>bindO (r47_some (ApiBlock.mk a1.Skip a1.Words a1.Comment) [88,89,90,73,74,81,82]) fun (y6 : Bool)=>if (!y6) = true then some ([],v1,0) else bindO (bindO (r47_some (ApiBlock.mk a1.Skip a1.Words a1.Comment) [73,74]) fun (y7 : Bool)=>if y7 = true then if (y4.1.Motion != 2000) = true then if (y4.1.Motion != 3000) = true then some true else bindO (r47_some (ApiBlock.mk a1.Skip a1.Words a1.Comment) [81,82]) fun (y8 : Bool)=>if y8 = true then bindO (r47_Drills y4.1.Motion) fun (y9 : Bool)=>some (!y9) else some false else bindO (r47_some (ApiBlock.mk a1.Skip a1.Words a1.Comment) [81,82]) fun (y10 : Bool)=>if y10 = true then bindO (r47_Drills y4.1.Motion) fun (y11 : Bool)=>some (!y11) else some false else bindO (r47_some (ApiBlock.mk a1.Skip a1.Words a1.Comment) [81,82]) fun (y12 : Bool)=>if y12 = true then bindO (r47_Drills y4.1.Motion) fun (y13 : Bool)=>some (!y13) else some false) fun (v2 : Bool)=>if v2 = true then some ([],R47Machine.mk (R42State.mk 0 0 0 0 0 0 0 0) (R44Cycle.mk 0 0 0 0 0 0 false) (ApiPos.mk 0 0 0),1) else if ((y4.1.Motion == 80000) || ((y4.1.Motion != 0) && (decide (y4.1.Feed ≤ 0)))) = true then some ([],R47Machine.mk (R42State.mk 0 0 0 0 0 0 0 0) (R44Cycle.mk 0 0 0 0 0 0 false) (ApiPos.mk 0 0 0),13) else bindO (r47_number y4.1) fun (y14 : Int)=>bindO (r45_Work a2 y4.1.Work y14 a0.At) fun (y15 : ApiPos × Int)=>if (y15.2 != 0) = true then some ([],R47Machine.mk (R42State.mk 0 0 0 0 0 0 0 0) (R44Cycle.mk 0 0 0 0 0 0 false) (ApiPos.mk 0 0 0),y15.2) else bindO (r47_moves (R47Machine.mk a0.State a0.Cycle a0.At) y4.1 (ApiBlock.mk a1.Skip a1.Words a1.Comment) y15.1) fun (y16 : (List ApiMove) × R44Cycle × Int)=>if (y16.2.2 != 0) = true then some ([],R47Machine.mk (R42State.mk 0 0 0 0 0 0 0 0) (R44Cycle.mk 0 0 0 0 0 0 false) (ApiPos.mk 0 0 0),y16.2.2) else bindX (guardO (okIdx y16.1) ( rangeX (fun (i1 : Nat) (e1 : ApiMove) (v3 : (List ApiMotion) × R47Machine × ApiPos)=>bindX (bindO (r47_positions v3.2.2 e1) fun (y17 : (List ApiPos) × Int)=>if (y17.2 != 0) = true then some (.ret (.ret (.ret ([],R47Machine.mk (R42State.mk 0 0 0 0 0 0 0 0) (R44Cycle.mk 0 0 0 0 0 0 false) (ApiPos.mk 0 0 0),y17.2)))) else bindX (guardO (okIdx y17.1) ( rangeX (fun (i2 : Nat) (e2 : ApiPos) (v4 : (List ApiMotion) × R47Machine)=>bindO (r47_number y4.1) fun (y18 : Int)=>bindO (r45_Machine (R45Table.mk a2.Work a2.Lengths) y4.1.Work y18 e2) fun (y19 : ApiPos × Int)=>if (y19.2 != 0) = true then some (.ret (.ret (.ret (.ret (.ret ([],R47Machine.mk (R42State.mk 0 0 0 0 0 0 0 0) (R44Cycle.mk 0 0 0 0 0 0 false) (ApiPos.mk 0 0 0),y19.2)))))) else bindO (if (!((y19.1.X == v4.2.At.X) && ((y19.1.Y == v4.2.At.Y) && (y19.1.Z == v4.2.At.Z)))) = true then guardO (okLen (v4.1.length + 1)) ( some (v4.1 ++ [ApiMotion.mk v4.2.At y19.1 e1.Rate (IntKind.i64.wrap (Int.tdiv y4.1.Tool 1000)) a3])) else some v4.1) fun (v5 : (List ApiMotion))=>some (.go (v5,R47Machine.mk v4.2.State v4.2.Cycle y19.1))) (fun (v4 : (List ApiMotion) × R47Machine)=>some (.go (v4.1,v4.2))) y17.1 0 (v3.1,v3.2.1))) fun (v6 : (List ApiMotion) × R47Machine)=>some (.go (v6.1,v6.2))) fun (v7 : (List ApiMotion) × R47Machine)=>some (.go (v7.1,v7.2,e1.To))) (fun (v3 : (List ApiMotion) × R47Machine × ApiPos)=>some (.go (v3.1,v3.2.1,v3.2.2))) y16.1 0 ([],R47Machine.mk v1.State y16.2.1 v1.At,y15.1))) fun (v8 : (List ApiMotion) × R47Machine × ApiPos)=>some (v8.1,v8.2.1,0)
theorem r47_Step_spec {a0 : R47Machine} {a1 : ApiBlock} {a2 : R45Table} {a3 : Int} {y : (List ApiMotion) × R47Machine × Int} (h : r47_Step a0 a1 a2 a3 = some y) : Spec gP 11 [.agg [.d (.int .i64 a0.State.Motion),.d (.int .i64 a0.State.Distance),.d (.int .i64 a0.State.Work),.d (.int .i64 a0.State.Length),.d (.int .i64 a0.State.Return),.d (.int .i64 a0.State.Feed),.d (.int .i64 a0.State.Tool),.d (.int .i64 a0.State.Offset),.d (.int .i64 a0.Cycle.Code),.d (.int .i64 a0.Cycle.R),.d (.int .i64 a0.Cycle.Z),.d (.int .i64 a0.Cycle.Q),.d (.int .i64 a0.Cycle.Rate),.d (.int .i64 a0.Cycle.Initial),.d (.bool a0.Cycle.High),.d (.int .i64 a0.At.X),.d (.int .i64 a0.At.Y),.d (.int .i64 a0.At.Z)],.agg [.d (.bool a1.Skip),.d (.list (List.map encApiWord a1.Words)),.d (.str a1.Comment)],.agg [.d (.int .i64 a2.Work.e0.X),.d (.int .i64 a2.Work.e0.Y),.d (.int .i64 a2.Work.e0.Z),.d (.int .i64 a2.Work.e1.X),.d (.int .i64 a2.Work.e1.Y),.d (.int .i64 a2.Work.e1.Z),.d (.int .i64 a2.Work.e2.X),.d (.int .i64 a2.Work.e2.Y),.d (.int .i64 a2.Work.e2.Z),.d (.int .i64 a2.Work.e3.X),.d (.int .i64 a2.Work.e3.Y),.d (.int .i64 a2.Work.e3.Z),.d (.int .i64 a2.Work.e4.X),.d (.int .i64 a2.Work.e4.Y),.d (.int .i64 a2.Work.e4.Z),.d (.int .i64 a2.Work.e5.X),.d (.int .i64 a2.Work.e5.Y),.d (.int .i64 a2.Work.e5.Z),.d (.list (List.map encR45Length a2.Lengths))],.d (.int .i64 a3)] (.tuple [.d (.list (List.map encApiMotion y.1)),.agg [.d (.int .i64 y.2.1.State.Motion),.d (.int .i64 y.2.1.State.Distance),.d (.int .i64 y.2.1.State.Work),.d (.int .i64 y.2.1.State.Length),.d (.int .i64 y.2.1.State.Return),.d (.int .i64 y.2.1.State.Feed),.d (.int .i64 y.2.1.State.Tool),.d (.int .i64 y.2.1.State.Offset),.d (.int .i64 y.2.1.Cycle.Code),.d (.int .i64 y.2.1.Cycle.R),.d (.int .i64 y.2.1.Cycle.Z),.d (.int .i64 y.2.1.Cycle.Q),.d (.int .i64 y.2.1.Cycle.Rate),.d (.int .i64 y.2.1.Cycle.Initial),.d (.bool y.2.1.Cycle.High),.d (.int .i64 y.2.1.At.X),.d (.int .i64 y.2.1.At.Y),.d (.int .i64 y.2.1.At.Z)],.d (.int .i64 y.2.2)]) := by
 refine spec_mir Tryz.func11 rfl (by kernel_rfl) (by kernel_rfl) (fun y : (List ApiMotion) × R47Machine × Int=>.tuple [.d (.list (List.map encApiMotion y.1)),.agg [.d (.int .i64 y.2.1.State.Motion),.d (.int .i64 y.2.1.State.Distance),.d (.int .i64 y.2.1.State.Work),.d (.int .i64 y.2.1.State.Length),.d (.int .i64 y.2.1.State.Return),.d (.int .i64 y.2.1.State.Feed),.d (.int .i64 y.2.1.State.Tool),.d (.int .i64 y.2.1.State.Offset),.d (.int .i64 y.2.1.Cycle.Code),.d (.int .i64 y.2.1.Cycle.R),.d (.int .i64 y.2.1.Cycle.Z),.d (.int .i64 y.2.1.Cycle.Q),.d (.int .i64 y.2.1.Cycle.Rate),.d (.int .i64 y.2.1.Cycle.Initial),.d (.bool y.2.1.Cycle.High),.d (.int .i64 y.2.1.At.X),.d (.int .i64 y.2.1.At.Y),.d (.int .i64 y.2.1.At.Z)],.d (.int .i64 y.2.2)]) ?_ h
 unfold r47_Step
 simp only [List.replicate,List.length,nS,nA,Tryz.ntmps11,SV]
 refine .sR fun e h=>?_
 simp only [seval,EMW,zero_29]
 refine mU e (.seqK (.seqK (.bind fun y1 hy1=>.region fun e h=>?_))) h
 simp only [seval,EMW,ag_36,sz_36]
 refine SpecS.by (r45_Valid_spec hy1) (by simp only [seval,FMW]) ?_
 simp only [seval,EMW]
 refine mU e (.cond rfl (fun hb3=>?_) (fun hb3=>?_)) h
 refine .sR fun e h=>?_
 simp only [seval,EMW,zero_29,pl_29,sz_29]
 refine mU e (.ret fun e h=>?_) h
 cases h
 simp only [seval,FMW,Tryz.results11,ag_29,sz_29]
 refine .skip (Mir.toK (.seqK (.seqK (.bind fun y2 hy4=>.region fun e h=>?_))))
 simp only [seval,EMW,fld_29_2,sz_27,ag_27]
 refine SpecS.by (r47_InRange_spec hy4) (by simp only [seval,FMW]) ?_
 simp only [seval,EMW]
 refine mU e (.cond rfl (fun hb6=>?_) (fun hb6=>?_)) h
 refine .sR fun e h=>?_
 simp only [seval,EMW,zero_29,pl_29,sz_29]
 refine mU e (.ret fun e h=>?_) h
 cases h
 simp only [seval,FMW,Tryz.results11,ag_29,sz_29]
 refine .skip (Mir.toK (.seqK (.seqK (.bind fun y3 hy7=>.region fun e h=>?_))))
 simp only [seval,EMW,ag_32,sz_32]
 refine SpecS.by (r47_known_spec hy7) (by simp only [seval,FMW]) ?_
 simp only [seval,EMW]
 refine mU e (.cond rfl (fun hb9=>?_) (fun hb9=>?_)) h
 refine .sR fun e h=>?_
 simp only [seval,EMW,zero_29,pl_29,sz_29]
 refine mU e (.ret fun e h=>?_) h
 cases h
 simp only [seval,FMW,Tryz.results11,ag_29,sz_29]
 refine .skip (Mir.toK (.seqK (.bind fun y4 hy10=>.region fun e h=>?_)))
 simp only [seval,EMW,fld_29_0,sz_23,ag_23,ag_32,sz_32]
 refine SpecS.by (r42_Apply_spec hy10) (by simp only [seval,FMW]) ?_
 simp only [seval,EMW,zero_23,sz_23]
 refine mU e (.sR fun e h=>?_) h
 simp only [seval,EMW,ag_23,sz_23,fld_29_2,sz_27,ag_27,zero_29,pl_29,sz_29]
 refine mU e (.seqK (.seqK (.bind fun y5 hy11=>.region fun e h=>?_))) h
 simp only [seval,EMW,fld_23_0,sz_2,ag_2]
 refine SpecS.by (r47_Drills_spec hy11) (by simp only [seval,FMW]) ?_
 simp only [seval,EMW]
 refine mU e (Mir.joinO (fun v1 : R47Machine=>([U,U,U,.d (.int .i64 a3),.ptr 0 0,.ptr 1 0,.ptr 2 0,U,U,.ptr 3 0,U,.ptr 4 0,U,.ptr 5 0] ++ us 183)) (fun v1=>⟨[[.d (.int .i64 a0.State.Motion),.d (.int .i64 a0.State.Distance),.d (.int .i64 a0.State.Work),.d (.int .i64 a0.State.Length),.d (.int .i64 a0.State.Return),.d (.int .i64 a0.State.Feed),.d (.int .i64 a0.State.Tool),.d (.int .i64 a0.State.Offset),.d (.int .i64 a0.Cycle.Code),.d (.int .i64 a0.Cycle.R),.d (.int .i64 a0.Cycle.Z),.d (.int .i64 a0.Cycle.Q),.d (.int .i64 a0.Cycle.Rate),.d (.int .i64 a0.Cycle.Initial),.d (.bool a0.Cycle.High),.d (.int .i64 a0.At.X),.d (.int .i64 a0.At.Y),.d (.int .i64 a0.At.Z)],[.d (.bool a1.Skip),.d (.list (List.map encApiWord a1.Words)),.d (.str a1.Comment)],[.d (.int .i64 a2.Work.e0.X),.d (.int .i64 a2.Work.e0.Y),.d (.int .i64 a2.Work.e0.Z),.d (.int .i64 a2.Work.e1.X),.d (.int .i64 a2.Work.e1.Y),.d (.int .i64 a2.Work.e1.Z),.d (.int .i64 a2.Work.e2.X),.d (.int .i64 a2.Work.e2.Y),.d (.int .i64 a2.Work.e2.Z),.d (.int .i64 a2.Work.e3.X),.d (.int .i64 a2.Work.e3.Y),.d (.int .i64 a2.Work.e3.Z),.d (.int .i64 a2.Work.e4.X),.d (.int .i64 a2.Work.e4.Y),.d (.int .i64 a2.Work.e4.Z),.d (.int .i64 a2.Work.e5.X),.d (.int .i64 a2.Work.e5.Y),.d (.int .i64 a2.Work.e5.Z),.d (.list (List.map encR45Length a2.Lengths))],[.d (.int .i64 0),.d (.int .i64 0),.d (.int .i64 0),.d (.int .i64 0),.d (.int .i64 0),.d (.int .i64 0),.d (.int .i64 0),.d (.int .i64 0),.d (.int .i64 0),.d (.int .i64 0),.d (.int .i64 0),.d (.int .i64 0),.d (.int .i64 0),.d (.int .i64 0),.d (.bool false),.d (.int .i64 0),.d (.int .i64 0),.d (.int .i64 0)],[.d (.int .i64 y4.1.Motion),.d (.int .i64 y4.1.Distance),.d (.int .i64 y4.1.Work),.d (.int .i64 y4.1.Length),.d (.int .i64 y4.1.Return),.d (.int .i64 y4.1.Feed),.d (.int .i64 y4.1.Tool),.d (.int .i64 y4.1.Offset)],[.d (.int .i64 v1.State.Motion),.d (.int .i64 v1.State.Distance),.d (.int .i64 v1.State.Work),.d (.int .i64 v1.State.Length),.d (.int .i64 v1.State.Return),.d (.int .i64 v1.State.Feed),.d (.int .i64 v1.State.Tool),.d (.int .i64 v1.State.Offset),.d (.int .i64 v1.Cycle.Code),.d (.int .i64 v1.Cycle.R),.d (.int .i64 v1.Cycle.Z),.d (.int .i64 v1.Cycle.Q),.d (.int .i64 v1.Cycle.Rate),.d (.int .i64 v1.Cycle.Initial),.d (.bool v1.Cycle.High),.d (.int .i64 v1.At.X),.d (.int .i64 v1.At.Y),.d (.int .i64 v1.At.Z)]],[]⟩) (fun _=>rfl) ?_ ?_) h
 refine .cond rfl (fun hb13=>?_) (fun hb13=>?_)
 refine .region fun e h=>?_
 simp only [seval,EMW,fld_29_1,sz_25,ag_25]
 cases h
 simp only [seval,FMW,Tryz.results11,ag_29,sz_29]
 refine .skip fun e h=>?_
 cases h
 simp only [seval,FMW,Tryz.results11,ag_29,sz_29]
 intro v1
 refine Mir.toK (.seqK (.seqK (.bind fun y6 hy14=>.region fun e h=>?_)))
 simp only [seval,EMW,ag_32,sz_32]
 refine SpecS.by (r47_some_spec hy14) (by simp only [seval,FMW]) ?_
 simp only [seval,EMW]
 refine mU e (.cond rfl (fun hb16=>?_) (fun hb16=>?_)) h
 refine .seqK (.regionD [] (by kernel_rfl) fun e h=>?_)
 simp only [seval,EMW,SB,ag_29,sz_29]
 refine mU e (.ret fun e h=>?_) h
 cases h
 simp only [seval,FMW,Tryz.results11,ag_29,sz_29]
 refine .skip (Mir.toK (.seqK (.seqK (Mir.joinO (fun v2 : Bool=>([U,U,U,.d (.int .i64 a3),.ptr 0 0,.ptr 1 0,.ptr 2 0,U,U,.ptr 3 0,U,.ptr 4 0,U,.ptr 5 0,U,U,U,U,U,U,U,U,U,U,U,U,U,U,U,U,U,U,U,U,U,U,U,U,U,U,U,U,U,U,U,U,U,U,U,U,U,U,U,U,U,U,U,U,U,U,U,U,U,U,U,U,U,U,U,U,U,U,U,U,U,U,U,U,U,U,.d (.bool v2)] ++ us 116)) (fun v2=>⟨[[.d (.int .i64 a0.State.Motion),.d (.int .i64 a0.State.Distance),.d (.int .i64 a0.State.Work),.d (.int .i64 a0.State.Length),.d (.int .i64 a0.State.Return),.d (.int .i64 a0.State.Feed),.d (.int .i64 a0.State.Tool),.d (.int .i64 a0.State.Offset),.d (.int .i64 a0.Cycle.Code),.d (.int .i64 a0.Cycle.R),.d (.int .i64 a0.Cycle.Z),.d (.int .i64 a0.Cycle.Q),.d (.int .i64 a0.Cycle.Rate),.d (.int .i64 a0.Cycle.Initial),.d (.bool a0.Cycle.High),.d (.int .i64 a0.At.X),.d (.int .i64 a0.At.Y),.d (.int .i64 a0.At.Z)],[.d (.bool a1.Skip),.d (.list (List.map encApiWord a1.Words)),.d (.str a1.Comment)],[.d (.int .i64 a2.Work.e0.X),.d (.int .i64 a2.Work.e0.Y),.d (.int .i64 a2.Work.e0.Z),.d (.int .i64 a2.Work.e1.X),.d (.int .i64 a2.Work.e1.Y),.d (.int .i64 a2.Work.e1.Z),.d (.int .i64 a2.Work.e2.X),.d (.int .i64 a2.Work.e2.Y),.d (.int .i64 a2.Work.e2.Z),.d (.int .i64 a2.Work.e3.X),.d (.int .i64 a2.Work.e3.Y),.d (.int .i64 a2.Work.e3.Z),.d (.int .i64 a2.Work.e4.X),.d (.int .i64 a2.Work.e4.Y),.d (.int .i64 a2.Work.e4.Z),.d (.int .i64 a2.Work.e5.X),.d (.int .i64 a2.Work.e5.Y),.d (.int .i64 a2.Work.e5.Z),.d (.list (List.map encR45Length a2.Lengths))],[.d (.int .i64 0),.d (.int .i64 0),.d (.int .i64 0),.d (.int .i64 0),.d (.int .i64 0),.d (.int .i64 0),.d (.int .i64 0),.d (.int .i64 0),.d (.int .i64 0),.d (.int .i64 0),.d (.int .i64 0),.d (.int .i64 0),.d (.int .i64 0),.d (.int .i64 0),.d (.bool false),.d (.int .i64 0),.d (.int .i64 0),.d (.int .i64 0)],[.d (.int .i64 y4.1.Motion),.d (.int .i64 y4.1.Distance),.d (.int .i64 y4.1.Work),.d (.int .i64 y4.1.Length),.d (.int .i64 y4.1.Return),.d (.int .i64 y4.1.Feed),.d (.int .i64 y4.1.Tool),.d (.int .i64 y4.1.Offset)],[.d (.int .i64 v1.State.Motion),.d (.int .i64 v1.State.Distance),.d (.int .i64 v1.State.Work),.d (.int .i64 v1.State.Length),.d (.int .i64 v1.State.Return),.d (.int .i64 v1.State.Feed),.d (.int .i64 v1.State.Tool),.d (.int .i64 v1.State.Offset),.d (.int .i64 v1.Cycle.Code),.d (.int .i64 v1.Cycle.R),.d (.int .i64 v1.Cycle.Z),.d (.int .i64 v1.Cycle.Q),.d (.int .i64 v1.Cycle.Rate),.d (.int .i64 v1.Cycle.Initial),.d (.bool v1.Cycle.High),.d (.int .i64 v1.At.X),.d (.int .i64 v1.At.Y),.d (.int .i64 v1.At.Z)]],[]⟩) (fun _=>rfl) ?_ ?_))))
 refine .bind fun y7 hy17=>.ite (fun hb18=>?_) (fun hb18=>?_)
 refine .ite (fun hb19=>?_) (fun hb19=>?_)
 refine .ite (fun hb20=>?_) (fun hb20=>?_)
 refine .region fun e h=>?_
 simp only [seval,EMW,ag_32,sz_32,hb18,hb19,hb20]
 refine SpecS.by (r47_some_spec hy17) (by simp only [seval,FMW,hb18,hb19,hb20]) ?_
 simp only [seval,EMW,fld_23_0,sz_2,ag_2,hb18,hb19,hb20]
 cases h
 simp only [seval,FMW,hb18,hb19,hb20]
 refine .bind fun y8 hy21=>.ite (fun hb22=>?_) (fun hb22=>?_)
 refine .bind fun y9 hy23=>.region fun e h=>?_
 simp only [seval,EMW,ag_32,sz_32,hb18,hb19,hb20,hb22]
 refine SpecS.by (r47_some_spec hy17) (by simp only [seval,FMW,hb18,hb19,hb20,hb22]) ?_
 simp only [seval,EMW,fld_23_0,sz_2,ag_2,ag_32,sz_32,hb18,hb19,hb20,hb22]
 refine SpecS.by (r47_some_spec hy21) (by simp only [seval,FMW,hb18,hb19,hb20,hb22]) ?_
 simp only [seval,EMW,fld_23_0,sz_2,ag_2,hb18,hb19,hb20,hb22]
 refine SpecS.by (r47_Drills_spec hy23) (by simp only [seval,FMW,hb18,hb19,hb20,hb22]) ?_
 simp only [seval,EMW,hb18,hb19,hb20,hb22]
 cases h
 simp only [seval,FMW,hb18,hb19,hb20,hb22]
 refine .region fun e h=>?_
 simp only [seval,EMW,ag_32,sz_32,hb18,hb19,hb20,hb22]
 refine SpecS.by (r47_some_spec hy17) (by simp only [seval,FMW,hb18,hb19,hb20,hb22]) ?_
 simp only [seval,EMW,fld_23_0,sz_2,ag_2,ag_32,sz_32,hb18,hb19,hb20,hb22]
 refine SpecS.by (r47_some_spec hy21) (by simp only [seval,FMW,hb18,hb19,hb20,hb22]) ?_
 simp only [seval,EMW,hb18,hb19,hb20,hb22]
 cases h
 simp only [seval,FMW,hb18,hb19,hb20,hb22]
 refine .bind fun y10 hy24=>.ite (fun hb25=>?_) (fun hb25=>?_)
 refine .bind fun y11 hy26=>.region fun e h=>?_
 simp only [seval,EMW,ag_32,sz_32,hb18,hb19,hb25]
 refine SpecS.by (r47_some_spec hy17) (by simp only [seval,FMW,hb18,hb19,hb25]) ?_
 simp only [seval,EMW,fld_23_0,sz_2,ag_2,ag_32,sz_32,hb18,hb19,hb25]
 refine SpecS.by (r47_some_spec hy24) (by simp only [seval,FMW,hb18,hb19,hb25]) ?_
 simp only [seval,EMW,fld_23_0,sz_2,ag_2,hb18,hb19,hb25]
 refine SpecS.by (r47_Drills_spec hy26) (by simp only [seval,FMW,hb18,hb19,hb25]) ?_
 simp only [seval,EMW,hb18,hb19,hb25]
 cases h
 simp only [seval,FMW,hb18,hb19,hb25]
 refine .region fun e h=>?_
 simp only [seval,EMW,ag_32,sz_32,hb18,hb19,hb25]
 refine SpecS.by (r47_some_spec hy17) (by simp only [seval,FMW,hb18,hb19,hb25]) ?_
 simp only [seval,EMW,fld_23_0,sz_2,ag_2,ag_32,sz_32,hb18,hb19,hb25]
 refine SpecS.by (r47_some_spec hy24) (by simp only [seval,FMW,hb18,hb19,hb25]) ?_
 simp only [seval,EMW,hb18,hb19,hb25]
 cases h
 simp only [seval,FMW,hb18,hb19,hb25]
 refine .bind fun y12 hy27=>.ite (fun hb28=>?_) (fun hb28=>?_)
 refine .bind fun y13 hy29=>.region fun e h=>?_
 simp only [seval,EMW,ag_32,sz_32,hb18,hb28]
 refine SpecS.by (r47_some_spec hy17) (by simp only [seval,FMW,hb18,hb28]) ?_
 simp only [seval,EMW,ag_32,sz_32,hb18,hb28]
 refine SpecS.by (r47_some_spec hy27) (by simp only [seval,FMW,hb18,hb28]) ?_
 simp only [seval,EMW,fld_23_0,sz_2,ag_2,hb18,hb28]
 refine SpecS.by (r47_Drills_spec hy29) (by simp only [seval,FMW,hb18,hb28]) ?_
 simp only [seval,EMW,hb18,hb28]
 cases h
 simp only [seval,FMW,hb18,hb28]
 refine .region fun e h=>?_
 simp only [seval,EMW,ag_32,sz_32,hb18,hb28]
 refine SpecS.by (r47_some_spec hy17) (by simp only [seval,FMW,hb18,hb28]) ?_
 simp only [seval,EMW,ag_32,sz_32,hb18,hb28]
 refine SpecS.by (r47_some_spec hy27) (by simp only [seval,FMW,hb18,hb28]) ?_
 simp only [seval,EMW,hb18,hb28]
 cases h
 simp only [seval,FMW,hb18,hb28]
 intro v2
 refine Mir.toK (.cond rfl (fun hb31=>?_) (fun hb31=>?_))
 refine .sR fun e h=>?_
 simp only [seval,EMW,zero_29,pl_29,sz_29]
 refine mU e (.ret fun e h=>?_) h
 cases h
 simp only [seval,FMW,Tryz.results11,ag_29,sz_29]
 refine .skip (Mir.toK (.seqK (.seqK (.joinV ([U,U,U,.d (.int .i64 a3),.ptr 0 0,.ptr 1 0,.ptr 2 0,U,U,.ptr 3 0,U,.ptr 4 0,U,.ptr 5 0,U,U,U,U,U,U,U,U,U,U,U,U,U,U,U,U,U,U,U,U,U,U,U,U,U,U,U,U,U,U,U,U,U,U,U,U,U,U,U,U,U,U,U,U,U,U,U,U,U,U,U,U,U,U,U,U,U,U,U,U,U,U,U,U,U,U,U,U,U,U,U,U,U,U,U,U,U,U,U,U,.d (.bool ((y4.1.Motion == 80000) || ((y4.1.Motion != 0) && (decide (y4.1.Feed ≤ 0)))))] ++ us 102) ⟨[[.d (.int .i64 a0.State.Motion),.d (.int .i64 a0.State.Distance),.d (.int .i64 a0.State.Work),.d (.int .i64 a0.State.Length),.d (.int .i64 a0.State.Return),.d (.int .i64 a0.State.Feed),.d (.int .i64 a0.State.Tool),.d (.int .i64 a0.State.Offset),.d (.int .i64 a0.Cycle.Code),.d (.int .i64 a0.Cycle.R),.d (.int .i64 a0.Cycle.Z),.d (.int .i64 a0.Cycle.Q),.d (.int .i64 a0.Cycle.Rate),.d (.int .i64 a0.Cycle.Initial),.d (.bool a0.Cycle.High),.d (.int .i64 a0.At.X),.d (.int .i64 a0.At.Y),.d (.int .i64 a0.At.Z)],[.d (.bool a1.Skip),.d (.list (List.map encApiWord a1.Words)),.d (.str a1.Comment)],[.d (.int .i64 a2.Work.e0.X),.d (.int .i64 a2.Work.e0.Y),.d (.int .i64 a2.Work.e0.Z),.d (.int .i64 a2.Work.e1.X),.d (.int .i64 a2.Work.e1.Y),.d (.int .i64 a2.Work.e1.Z),.d (.int .i64 a2.Work.e2.X),.d (.int .i64 a2.Work.e2.Y),.d (.int .i64 a2.Work.e2.Z),.d (.int .i64 a2.Work.e3.X),.d (.int .i64 a2.Work.e3.Y),.d (.int .i64 a2.Work.e3.Z),.d (.int .i64 a2.Work.e4.X),.d (.int .i64 a2.Work.e4.Y),.d (.int .i64 a2.Work.e4.Z),.d (.int .i64 a2.Work.e5.X),.d (.int .i64 a2.Work.e5.Y),.d (.int .i64 a2.Work.e5.Z),.d (.list (List.map encR45Length a2.Lengths))],[.d (.int .i64 0),.d (.int .i64 0),.d (.int .i64 0),.d (.int .i64 0),.d (.int .i64 0),.d (.int .i64 0),.d (.int .i64 0),.d (.int .i64 0),.d (.int .i64 0),.d (.int .i64 0),.d (.int .i64 0),.d (.int .i64 0),.d (.int .i64 0),.d (.int .i64 0),.d (.bool false),.d (.int .i64 0),.d (.int .i64 0),.d (.int .i64 0)],[.d (.int .i64 y4.1.Motion),.d (.int .i64 y4.1.Distance),.d (.int .i64 y4.1.Work),.d (.int .i64 y4.1.Length),.d (.int .i64 y4.1.Return),.d (.int .i64 y4.1.Feed),.d (.int .i64 y4.1.Tool),.d (.int .i64 y4.1.Offset)],[.d (.int .i64 v1.State.Motion),.d (.int .i64 v1.State.Distance),.d (.int .i64 v1.State.Work),.d (.int .i64 v1.State.Length),.d (.int .i64 v1.State.Return),.d (.int .i64 v1.State.Feed),.d (.int .i64 v1.State.Tool),.d (.int .i64 v1.State.Offset),.d (.int .i64 v1.Cycle.Code),.d (.int .i64 v1.Cycle.R),.d (.int .i64 v1.Cycle.Z),.d (.int .i64 v1.Cycle.Q),.d (.int .i64 v1.Cycle.Rate),.d (.int .i64 v1.Cycle.Initial),.d (.bool v1.Cycle.High),.d (.int .i64 v1.At.X),.d (.int .i64 v1.At.Y),.d (.int .i64 v1.At.Z)]],[]⟩ rfl ?_ ?_))))
 refine SWs.region ?_
 rcases Bool.eq_false_or_eq_true (y4.1.Motion == 80000) with hb32 | hb32
 simp only [seval,EMW,SL,PB,fld_23_0,sz_2,ag_2,hb32]
 rcases Bool.eq_false_or_eq_true (y4.1.Motion != 0) with hb33 | hb33
 simp only [seval,EMW,SL,PB,fld_23_0,sz_2,ag_2,fld_23_5,hb32,hb33]
 simp only [seval,EMW,SL,PB,fld_23_0,sz_2,ag_2,hb32,hb33]
 refine Mir.toK (.cond rfl (fun hb35=>?_) (fun hb35=>?_))
 refine .sR fun e h=>?_
 simp only [seval,EMW,zero_29,pl_29,sz_29]
 refine mU e (.ret fun e h=>?_) h
 cases h
 simp only [seval,FMW,Tryz.results11,ag_29,sz_29]
 refine .skip (Mir.toK (.seqK (.bind fun y14 hy36=>.bind fun y15 hy37=>.regionD [] (by kernel_rfl) fun e h=>?_)))
 simp only [seval,EMW,SB,ag_36,sz_36,fld_23_2,sz_2,ag_2,ag_23,sz_23]
 refine Spec.by (r47_number_spec hy36) (by simp only [seval,FMW]) ?_
 simp only [seval,EMW,SB,fld_29_2,sz_27,ag_27]
 refine Spec.by (r45_Work_spec hy37) (by simp only [seval,FMW]) ?_
 simp only [seval,EMW,SB,zero_27,sz_27]
 refine mU e (.seqK (.sR fun e h=>?_)) h
 simp only [seval,EMW]
 refine mU e (.cond rfl (fun hb39=>?_) (fun hb39=>?_)) h
 refine .sR fun e h=>?_
 simp only [seval,EMW,zero_29,pl_29,sz_29]
 refine mU e (.ret fun e h=>?_) h
 cases h
 simp only [seval,FMW,Tryz.results11,ag_29,sz_29]
 refine .skip (Mir.toK (.seqK (.bind fun y16 hy40=>.region fun e h=>?_)))
 simp only [seval,EMW,ag_29,sz_29,ag_23,sz_23,ag_32,sz_32,ag_27,sz_27]
 refine SpecS.by (r47_moves_spec hy40) (by simp only [seval,FMW]) ?_
 simp only [seval,EMW,zero_25,sz_25]
 refine mU e (.seqK (.sR fun e h=>?_)) h
 simp only [seval,EMW]
 refine mU e (.cond rfl (fun hb42=>?_) (fun hb42=>?_)) h
 refine .sR fun e h=>?_
 simp only [seval,EMW,zero_29,pl_29,sz_29]
 refine mU e (.ret fun e h=>?_) h
 cases h
 simp only [seval,FMW,Tryz.results11,ag_29,sz_29]
 refine .skip (Mir.toK (.sR fun e h=>?_))
 simp only [seval,EMW,ag_25,sz_25,fld_29_1]
 refine mU e (.sR fun e h=>?_) h
 simp only [seval,EMW]
 refine mU e (.seqK (.sR fun e h=>?_)) h
 simp only [seval,EMW]
 refine mU e (.gh [.slot 18 73] rfl (Mir.join (fun v8 : (List ApiMotion) × R47Machine × ApiPos=>([U,U,U,U,U,U,U,U,U,.ptr 3 0,U,U,U,.ptr 5 0,U,U,U,U,.own 0 (List.map encApiMotion v8.1)] ++ us 178)) (fun v8=>⟨[[.d (.int .i64 a0.State.Motion),.d (.int .i64 a0.State.Distance),.d (.int .i64 a0.State.Work),.d (.int .i64 a0.State.Length),.d (.int .i64 a0.State.Return),.d (.int .i64 a0.State.Feed),.d (.int .i64 a0.State.Tool),.d (.int .i64 a0.State.Offset),.d (.int .i64 a0.Cycle.Code),.d (.int .i64 a0.Cycle.R),.d (.int .i64 a0.Cycle.Z),.d (.int .i64 a0.Cycle.Q),.d (.int .i64 a0.Cycle.Rate),.d (.int .i64 a0.Cycle.Initial),.d (.bool a0.Cycle.High),.d (.int .i64 a0.At.X),.d (.int .i64 a0.At.Y),.d (.int .i64 a0.At.Z)],[.d (.bool a1.Skip),.d (.list (List.map encApiWord a1.Words)),.d (.str a1.Comment)],[.d (.int .i64 a2.Work.e0.X),.d (.int .i64 a2.Work.e0.Y),.d (.int .i64 a2.Work.e0.Z),.d (.int .i64 a2.Work.e1.X),.d (.int .i64 a2.Work.e1.Y),.d (.int .i64 a2.Work.e1.Z),.d (.int .i64 a2.Work.e2.X),.d (.int .i64 a2.Work.e2.Y),.d (.int .i64 a2.Work.e2.Z),.d (.int .i64 a2.Work.e3.X),.d (.int .i64 a2.Work.e3.Y),.d (.int .i64 a2.Work.e3.Z),.d (.int .i64 a2.Work.e4.X),.d (.int .i64 a2.Work.e4.Y),.d (.int .i64 a2.Work.e4.Z),.d (.int .i64 a2.Work.e5.X),.d (.int .i64 a2.Work.e5.Y),.d (.int .i64 a2.Work.e5.Z),.d (.list (List.map encR45Length a2.Lengths))],[.d (.int .i64 0),.d (.int .i64 0),.d (.int .i64 0),.d (.int .i64 0),.d (.int .i64 0),.d (.int .i64 0),.d (.int .i64 0),.d (.int .i64 0),.d (.int .i64 0),.d (.int .i64 0),.d (.int .i64 0),.d (.int .i64 0),.d (.int .i64 0),.d (.int .i64 0),.d (.bool false),.d (.int .i64 0),.d (.int .i64 0),.d (.int .i64 0)],[.d (.int .i64 y4.1.Motion),.d (.int .i64 y4.1.Distance),.d (.int .i64 y4.1.Work),.d (.int .i64 y4.1.Length),.d (.int .i64 y4.1.Return),.d (.int .i64 y4.1.Feed),.d (.int .i64 y4.1.Tool),.d (.int .i64 y4.1.Offset)],[.d (.int .i64 v8.2.1.State.Motion),.d (.int .i64 v8.2.1.State.Distance),.d (.int .i64 v8.2.1.State.Work),.d (.int .i64 v8.2.1.State.Length),.d (.int .i64 v8.2.1.State.Return),.d (.int .i64 v8.2.1.State.Feed),.d (.int .i64 v8.2.1.State.Tool),.d (.int .i64 v8.2.1.State.Offset),.d (.int .i64 v8.2.1.Cycle.Code),.d (.int .i64 v8.2.1.Cycle.R),.d (.int .i64 v8.2.1.Cycle.Z),.d (.int .i64 v8.2.1.Cycle.Q),.d (.int .i64 v8.2.1.Cycle.Rate),.d (.int .i64 v8.2.1.Cycle.Initial),.d (.bool v8.2.1.Cycle.High),.d (.int .i64 v8.2.1.At.X),.d (.int .i64 v8.2.1.At.Y),.d (.int .i64 v8.2.1.At.Z)],[.d (.int .i64 v8.2.2.X),.d (.int .i64 v8.2.2.Y),.d (.int .i64 v8.2.2.Z)],[.d (.int .i64 y16.2.1.Code),.d (.int .i64 y16.2.1.R),.d (.int .i64 y16.2.1.Z),.d (.int .i64 y16.2.1.Q),.d (.int .i64 y16.2.1.Rate),.d (.int .i64 y16.2.1.Initial),.d (.bool y16.2.1.High)]],[(73,v8.1.length)]⟩) (fun _=>rfl) ?_ ?_)) h
 refine .block (.guard fun q1=>Mir.range (fun (i1 : Nat) (v3 : (List ApiMotion) × R47Machine × ApiPos)=>([U,U,U,.d (.int .i64 a3),U,U,.ptr 2 0,U,U,.ptr 3 0,U,.ptr 4 0,U,.ptr 5 0,.ptr 6 0,U,.d (.list (List.map encApiMove y16.1)),U,.own 0 (List.map encApiMotion v3.1),.d (.int .i64 (i1 : Int))] ++ us 177)) (fun i1 v3=>⟨[[.d (.int .i64 a0.State.Motion),.d (.int .i64 a0.State.Distance),.d (.int .i64 a0.State.Work),.d (.int .i64 a0.State.Length),.d (.int .i64 a0.State.Return),.d (.int .i64 a0.State.Feed),.d (.int .i64 a0.State.Tool),.d (.int .i64 a0.State.Offset),.d (.int .i64 a0.Cycle.Code),.d (.int .i64 a0.Cycle.R),.d (.int .i64 a0.Cycle.Z),.d (.int .i64 a0.Cycle.Q),.d (.int .i64 a0.Cycle.Rate),.d (.int .i64 a0.Cycle.Initial),.d (.bool a0.Cycle.High),.d (.int .i64 a0.At.X),.d (.int .i64 a0.At.Y),.d (.int .i64 a0.At.Z)],[.d (.bool a1.Skip),.d (.list (List.map encApiWord a1.Words)),.d (.str a1.Comment)],[.d (.int .i64 a2.Work.e0.X),.d (.int .i64 a2.Work.e0.Y),.d (.int .i64 a2.Work.e0.Z),.d (.int .i64 a2.Work.e1.X),.d (.int .i64 a2.Work.e1.Y),.d (.int .i64 a2.Work.e1.Z),.d (.int .i64 a2.Work.e2.X),.d (.int .i64 a2.Work.e2.Y),.d (.int .i64 a2.Work.e2.Z),.d (.int .i64 a2.Work.e3.X),.d (.int .i64 a2.Work.e3.Y),.d (.int .i64 a2.Work.e3.Z),.d (.int .i64 a2.Work.e4.X),.d (.int .i64 a2.Work.e4.Y),.d (.int .i64 a2.Work.e4.Z),.d (.int .i64 a2.Work.e5.X),.d (.int .i64 a2.Work.e5.Y),.d (.int .i64 a2.Work.e5.Z),.d (.list (List.map encR45Length a2.Lengths))],[.d (.int .i64 0),.d (.int .i64 0),.d (.int .i64 0),.d (.int .i64 0),.d (.int .i64 0),.d (.int .i64 0),.d (.int .i64 0),.d (.int .i64 0),.d (.int .i64 0),.d (.int .i64 0),.d (.int .i64 0),.d (.int .i64 0),.d (.int .i64 0),.d (.int .i64 0),.d (.bool false),.d (.int .i64 0),.d (.int .i64 0),.d (.int .i64 0)],[.d (.int .i64 y4.1.Motion),.d (.int .i64 y4.1.Distance),.d (.int .i64 y4.1.Work),.d (.int .i64 y4.1.Length),.d (.int .i64 y4.1.Return),.d (.int .i64 y4.1.Feed),.d (.int .i64 y4.1.Tool),.d (.int .i64 y4.1.Offset)],[.d (.int .i64 v3.2.1.State.Motion),.d (.int .i64 v3.2.1.State.Distance),.d (.int .i64 v3.2.1.State.Work),.d (.int .i64 v3.2.1.State.Length),.d (.int .i64 v3.2.1.State.Return),.d (.int .i64 v3.2.1.State.Feed),.d (.int .i64 v3.2.1.State.Tool),.d (.int .i64 v3.2.1.State.Offset),.d (.int .i64 v3.2.1.Cycle.Code),.d (.int .i64 v3.2.1.Cycle.R),.d (.int .i64 v3.2.1.Cycle.Z),.d (.int .i64 v3.2.1.Cycle.Q),.d (.int .i64 v3.2.1.Cycle.Rate),.d (.int .i64 v3.2.1.Cycle.Initial),.d (.bool v3.2.1.Cycle.High),.d (.int .i64 v3.2.1.At.X),.d (.int .i64 v3.2.1.At.Y),.d (.int .i64 v3.2.1.At.Z)],[.d (.int .i64 v3.2.2.X),.d (.int .i64 v3.2.2.Y),.d (.int .i64 v3.2.2.Z)],[.d (.int .i64 y16.2.1.Code),.d (.int .i64 y16.2.1.R),.d (.int .i64 y16.2.1.Z),.d (.int .i64 y16.2.1.Q),.d (.int .i64 y16.2.1.Rate),.d (.int .i64 y16.2.1.Initial),.d (.bool y16.2.1.High)]],[(73,v3.1.length)]⟩) q1 (fun _ _=>rfl) (by simp only [seval,FMW,zNI]) (by simp only [seval,FMW,zNI]) ?_ ?_)
 intro i1 e1 v3 q2
 refine .seqK (.sR fun e h=>?_)
 simp only [seval,EMW,und_102,q2]
 refine mU e (.condT rfl (.skip (Mir.toK (.seqK (Mir.join (fun v7 : (List ApiMotion) × R47Machine=>([U,U,U,.d (.int .i64 a3),U,U,.ptr 2 0,U,U,.ptr 3 0,U,.ptr 4 0,U,.ptr 5 0,.ptr 6 0,U,.d (.list (List.map encApiMove y16.1)),U,.own 0 (List.map encApiMotion v7.1),.d (.int .i64 (i1 : Int))] ++ us 177)) (fun v7=>⟨[[.d (.int .i64 a0.State.Motion),.d (.int .i64 a0.State.Distance),.d (.int .i64 a0.State.Work),.d (.int .i64 a0.State.Length),.d (.int .i64 a0.State.Return),.d (.int .i64 a0.State.Feed),.d (.int .i64 a0.State.Tool),.d (.int .i64 a0.State.Offset),.d (.int .i64 a0.Cycle.Code),.d (.int .i64 a0.Cycle.R),.d (.int .i64 a0.Cycle.Z),.d (.int .i64 a0.Cycle.Q),.d (.int .i64 a0.Cycle.Rate),.d (.int .i64 a0.Cycle.Initial),.d (.bool a0.Cycle.High),.d (.int .i64 a0.At.X),.d (.int .i64 a0.At.Y),.d (.int .i64 a0.At.Z)],[.d (.bool a1.Skip),.d (.list (List.map encApiWord a1.Words)),.d (.str a1.Comment)],[.d (.int .i64 a2.Work.e0.X),.d (.int .i64 a2.Work.e0.Y),.d (.int .i64 a2.Work.e0.Z),.d (.int .i64 a2.Work.e1.X),.d (.int .i64 a2.Work.e1.Y),.d (.int .i64 a2.Work.e1.Z),.d (.int .i64 a2.Work.e2.X),.d (.int .i64 a2.Work.e2.Y),.d (.int .i64 a2.Work.e2.Z),.d (.int .i64 a2.Work.e3.X),.d (.int .i64 a2.Work.e3.Y),.d (.int .i64 a2.Work.e3.Z),.d (.int .i64 a2.Work.e4.X),.d (.int .i64 a2.Work.e4.Y),.d (.int .i64 a2.Work.e4.Z),.d (.int .i64 a2.Work.e5.X),.d (.int .i64 a2.Work.e5.Y),.d (.int .i64 a2.Work.e5.Z),.d (.list (List.map encR45Length a2.Lengths))],[.d (.int .i64 0),.d (.int .i64 0),.d (.int .i64 0),.d (.int .i64 0),.d (.int .i64 0),.d (.int .i64 0),.d (.int .i64 0),.d (.int .i64 0),.d (.int .i64 0),.d (.int .i64 0),.d (.int .i64 0),.d (.int .i64 0),.d (.int .i64 0),.d (.int .i64 0),.d (.bool false),.d (.int .i64 0),.d (.int .i64 0),.d (.int .i64 0)],[.d (.int .i64 y4.1.Motion),.d (.int .i64 y4.1.Distance),.d (.int .i64 y4.1.Work),.d (.int .i64 y4.1.Length),.d (.int .i64 y4.1.Return),.d (.int .i64 y4.1.Feed),.d (.int .i64 y4.1.Tool),.d (.int .i64 y4.1.Offset)],[.d (.int .i64 v7.2.State.Motion),.d (.int .i64 v7.2.State.Distance),.d (.int .i64 v7.2.State.Work),.d (.int .i64 v7.2.State.Length),.d (.int .i64 v7.2.State.Return),.d (.int .i64 v7.2.State.Feed),.d (.int .i64 v7.2.State.Tool),.d (.int .i64 v7.2.State.Offset),.d (.int .i64 v7.2.Cycle.Code),.d (.int .i64 v7.2.Cycle.R),.d (.int .i64 v7.2.Cycle.Z),.d (.int .i64 v7.2.Cycle.Q),.d (.int .i64 v7.2.Cycle.Rate),.d (.int .i64 v7.2.Cycle.Initial),.d (.bool v7.2.Cycle.High),.d (.int .i64 v7.2.At.X),.d (.int .i64 v7.2.At.Y),.d (.int .i64 v7.2.At.Z)],[.d (.int .i64 e1.To.X),.d (.int .i64 e1.To.Y),.d (.int .i64 e1.To.Z)],[.d (.int .i64 y16.2.1.Code),.d (.int .i64 y16.2.1.R),.d (.int .i64 y16.2.1.Z),.d (.int .i64 y16.2.1.Q),.d (.int .i64 y16.2.1.Rate),.d (.int .i64 y16.2.1.Initial),.d (.bool y16.2.1.High)]],[(73,v7.1.length)]⟩) (fun _=>rfl) ?_ ?_))))) h
 refine .block (.seqK (.bind fun y17 h1=>.regionD [] (by kernel_rfl) fun e h=>?_))
 simp only [seval,EMW,SB,ag_27,sz_27,und_102,sz_111,q2,Int.toNat_natCast,ag_111]
 refine Spec.by (r47_positions_spec h1) (by simp only [seval,FMW]) ?_
 simp only [seval,EMW,SB]
 refine mU e (.seqK (.sR fun e h=>?_)) h
 simp only [seval,EMW]
 refine mU e (.cond rfl (fun h2=>?_) (fun h2=>?_)) h
 refine .sR fun e h=>?_
 simp only [seval,EMW,zero_29,pl_29,sz_29]
 refine mU e (.ret fun e h=>?_) h
 cases h
 simp only [seval,FMW,Tryz.results11,ag_29,sz_29]
 refine .skip (Mir.toK (.seqK (.sR fun e h=>?_)))
 simp only [seval,EMW]
 refine mU e (Mir.join (fun v6 : (List ApiMotion) × R47Machine=>([U,U,U,.d (.int .i64 a3),U,U,.ptr 2 0,U,U,.ptr 3 0,U,.ptr 4 0,U,.ptr 5 0,.ptr 6 0,U,.d (.list (List.map encApiMove y16.1)),U,.own 0 (List.map encApiMotion v6.1),.d (.int .i64 (i1 : Int))] ++ us 177)) (fun v6=>⟨[[.d (.int .i64 a0.State.Motion),.d (.int .i64 a0.State.Distance),.d (.int .i64 a0.State.Work),.d (.int .i64 a0.State.Length),.d (.int .i64 a0.State.Return),.d (.int .i64 a0.State.Feed),.d (.int .i64 a0.State.Tool),.d (.int .i64 a0.State.Offset),.d (.int .i64 a0.Cycle.Code),.d (.int .i64 a0.Cycle.R),.d (.int .i64 a0.Cycle.Z),.d (.int .i64 a0.Cycle.Q),.d (.int .i64 a0.Cycle.Rate),.d (.int .i64 a0.Cycle.Initial),.d (.bool a0.Cycle.High),.d (.int .i64 a0.At.X),.d (.int .i64 a0.At.Y),.d (.int .i64 a0.At.Z)],[.d (.bool a1.Skip),.d (.list (List.map encApiWord a1.Words)),.d (.str a1.Comment)],[.d (.int .i64 a2.Work.e0.X),.d (.int .i64 a2.Work.e0.Y),.d (.int .i64 a2.Work.e0.Z),.d (.int .i64 a2.Work.e1.X),.d (.int .i64 a2.Work.e1.Y),.d (.int .i64 a2.Work.e1.Z),.d (.int .i64 a2.Work.e2.X),.d (.int .i64 a2.Work.e2.Y),.d (.int .i64 a2.Work.e2.Z),.d (.int .i64 a2.Work.e3.X),.d (.int .i64 a2.Work.e3.Y),.d (.int .i64 a2.Work.e3.Z),.d (.int .i64 a2.Work.e4.X),.d (.int .i64 a2.Work.e4.Y),.d (.int .i64 a2.Work.e4.Z),.d (.int .i64 a2.Work.e5.X),.d (.int .i64 a2.Work.e5.Y),.d (.int .i64 a2.Work.e5.Z),.d (.list (List.map encR45Length a2.Lengths))],[.d (.int .i64 0),.d (.int .i64 0),.d (.int .i64 0),.d (.int .i64 0),.d (.int .i64 0),.d (.int .i64 0),.d (.int .i64 0),.d (.int .i64 0),.d (.int .i64 0),.d (.int .i64 0),.d (.int .i64 0),.d (.int .i64 0),.d (.int .i64 0),.d (.int .i64 0),.d (.bool false),.d (.int .i64 0),.d (.int .i64 0),.d (.int .i64 0)],[.d (.int .i64 y4.1.Motion),.d (.int .i64 y4.1.Distance),.d (.int .i64 y4.1.Work),.d (.int .i64 y4.1.Length),.d (.int .i64 y4.1.Return),.d (.int .i64 y4.1.Feed),.d (.int .i64 y4.1.Tool),.d (.int .i64 y4.1.Offset)],[.d (.int .i64 v6.2.State.Motion),.d (.int .i64 v6.2.State.Distance),.d (.int .i64 v6.2.State.Work),.d (.int .i64 v6.2.State.Length),.d (.int .i64 v6.2.State.Return),.d (.int .i64 v6.2.State.Feed),.d (.int .i64 v6.2.State.Tool),.d (.int .i64 v6.2.State.Offset),.d (.int .i64 v6.2.Cycle.Code),.d (.int .i64 v6.2.Cycle.R),.d (.int .i64 v6.2.Cycle.Z),.d (.int .i64 v6.2.Cycle.Q),.d (.int .i64 v6.2.Cycle.Rate),.d (.int .i64 v6.2.Cycle.Initial),.d (.bool v6.2.Cycle.High),.d (.int .i64 v6.2.At.X),.d (.int .i64 v6.2.At.Y),.d (.int .i64 v6.2.At.Z)],[.d (.int .i64 v3.2.2.X),.d (.int .i64 v3.2.2.Y),.d (.int .i64 v3.2.2.Z)],[.d (.int .i64 y16.2.1.Code),.d (.int .i64 y16.2.1.R),.d (.int .i64 y16.2.1.Z),.d (.int .i64 y16.2.1.Q),.d (.int .i64 y16.2.1.Rate),.d (.int .i64 y16.2.1.Initial),.d (.bool y16.2.1.High)]],[(73,v6.1.length)]⟩) (fun _=>rfl) ?_ ?_) h
 refine .block (.guard fun q3=>Mir.range (fun (i2 : Nat) (v4 : (List ApiMotion) × R47Machine)=>([U,U,U,.d (.int .i64 a3),U,U,.ptr 2 0,U,U,.ptr 3 0,U,.ptr 4 0,U,.ptr 5 0,.ptr 6 0,U,.d (.list (List.map encApiMove y16.1)),U,.own 0 (List.map encApiMotion v4.1),.d (.int .i64 (i1 : Int)),.d (.list (List.map encApiPos y17.1)),U,.d (.int .i64 (i2 : Int))] ++ us 174)) (fun i2 v4=>⟨[[.d (.int .i64 a0.State.Motion),.d (.int .i64 a0.State.Distance),.d (.int .i64 a0.State.Work),.d (.int .i64 a0.State.Length),.d (.int .i64 a0.State.Return),.d (.int .i64 a0.State.Feed),.d (.int .i64 a0.State.Tool),.d (.int .i64 a0.State.Offset),.d (.int .i64 a0.Cycle.Code),.d (.int .i64 a0.Cycle.R),.d (.int .i64 a0.Cycle.Z),.d (.int .i64 a0.Cycle.Q),.d (.int .i64 a0.Cycle.Rate),.d (.int .i64 a0.Cycle.Initial),.d (.bool a0.Cycle.High),.d (.int .i64 a0.At.X),.d (.int .i64 a0.At.Y),.d (.int .i64 a0.At.Z)],[.d (.bool a1.Skip),.d (.list (List.map encApiWord a1.Words)),.d (.str a1.Comment)],[.d (.int .i64 a2.Work.e0.X),.d (.int .i64 a2.Work.e0.Y),.d (.int .i64 a2.Work.e0.Z),.d (.int .i64 a2.Work.e1.X),.d (.int .i64 a2.Work.e1.Y),.d (.int .i64 a2.Work.e1.Z),.d (.int .i64 a2.Work.e2.X),.d (.int .i64 a2.Work.e2.Y),.d (.int .i64 a2.Work.e2.Z),.d (.int .i64 a2.Work.e3.X),.d (.int .i64 a2.Work.e3.Y),.d (.int .i64 a2.Work.e3.Z),.d (.int .i64 a2.Work.e4.X),.d (.int .i64 a2.Work.e4.Y),.d (.int .i64 a2.Work.e4.Z),.d (.int .i64 a2.Work.e5.X),.d (.int .i64 a2.Work.e5.Y),.d (.int .i64 a2.Work.e5.Z),.d (.list (List.map encR45Length a2.Lengths))],[.d (.int .i64 0),.d (.int .i64 0),.d (.int .i64 0),.d (.int .i64 0),.d (.int .i64 0),.d (.int .i64 0),.d (.int .i64 0),.d (.int .i64 0),.d (.int .i64 0),.d (.int .i64 0),.d (.int .i64 0),.d (.int .i64 0),.d (.int .i64 0),.d (.int .i64 0),.d (.bool false),.d (.int .i64 0),.d (.int .i64 0),.d (.int .i64 0)],[.d (.int .i64 y4.1.Motion),.d (.int .i64 y4.1.Distance),.d (.int .i64 y4.1.Work),.d (.int .i64 y4.1.Length),.d (.int .i64 y4.1.Return),.d (.int .i64 y4.1.Feed),.d (.int .i64 y4.1.Tool),.d (.int .i64 y4.1.Offset)],[.d (.int .i64 v4.2.State.Motion),.d (.int .i64 v4.2.State.Distance),.d (.int .i64 v4.2.State.Work),.d (.int .i64 v4.2.State.Length),.d (.int .i64 v4.2.State.Return),.d (.int .i64 v4.2.State.Feed),.d (.int .i64 v4.2.State.Tool),.d (.int .i64 v4.2.State.Offset),.d (.int .i64 v4.2.Cycle.Code),.d (.int .i64 v4.2.Cycle.R),.d (.int .i64 v4.2.Cycle.Z),.d (.int .i64 v4.2.Cycle.Q),.d (.int .i64 v4.2.Cycle.Rate),.d (.int .i64 v4.2.Cycle.Initial),.d (.bool v4.2.Cycle.High),.d (.int .i64 v4.2.At.X),.d (.int .i64 v4.2.At.Y),.d (.int .i64 v4.2.At.Z)],[.d (.int .i64 v3.2.2.X),.d (.int .i64 v3.2.2.Y),.d (.int .i64 v3.2.2.Z)],[.d (.int .i64 y16.2.1.Code),.d (.int .i64 y16.2.1.R),.d (.int .i64 y16.2.1.Z),.d (.int .i64 y16.2.1.Q),.d (.int .i64 y16.2.1.Rate),.d (.int .i64 y16.2.1.Initial),.d (.bool y16.2.1.High)]],[(73,v4.1.length)]⟩) q3 (fun _ _=>rfl) (by simp only [seval,FMW,zNI]) (by simp only [seval,FMW,zNI]) ?_ ?_)
 intro i2 e2 v4 q4
 refine .seqK (.sR fun e h=>?_)
 simp only [seval,EMW,und_105,q4]
 refine mU e (.condT rfl (.skip (Mir.toK (.seqK (.block (.seqK (.bind fun y18 h3=>.bind fun y19 h4=>.regionD [] (by kernel_rfl) fun e h=>?_))))))) h
 simp only [seval,EMW,SB,ag_36,sz_36,fld_23_2,sz_2,ag_2,ag_23,sz_23]
 refine Spec.by (r47_number_spec h3) (by simp only [seval,FMW]) ?_
 simp only [seval,EMW,SB,und_105,sz_27,q4,Int.toNat_natCast,ag_27]
 refine Spec.by (r45_Machine_spec h4) (by simp only [seval,FMW]) ?_
 simp only [seval,EMW,SB,zero_27,sz_27]
 refine mU e (.seqK (.sR fun e h=>?_)) h
 simp only [seval,EMW]
 refine mU e (.cond rfl (fun h5=>?_) (fun h5=>?_)) h
 refine .sR fun e h=>?_
 simp only [seval,EMW,zero_29,pl_29,sz_29]
 refine mU e (.ret fun e h=>?_) h
 cases h
 simp only [seval,FMW,Tryz.results11,ag_29,sz_29]
 refine .skip (Mir.toK (.seqK (.sR fun e h=>?_)))
 simp only [seval,EMW,ag_27,sz_27,fld_29_2,gE_27]
 refine mU e (Mir.joinO (fun v5 : (List ApiMotion)=>([U,U,U,.d (.int .i64 a3),U,U,.ptr 2 0,U,U,.ptr 3 0,U,.ptr 4 0,U,.ptr 5 0,.ptr 6 0,U,.d (.list (List.map encApiMove y16.1)),U,.own 0 (List.map encApiMotion v5),.d (.int .i64 (i1 : Int)),.d (.list (List.map encApiPos y17.1)),U,.d (.int .i64 (i2 : Int)),.ptr 8 0] ++ us 173)) (fun v5=>⟨[[.d (.int .i64 a0.State.Motion),.d (.int .i64 a0.State.Distance),.d (.int .i64 a0.State.Work),.d (.int .i64 a0.State.Length),.d (.int .i64 a0.State.Return),.d (.int .i64 a0.State.Feed),.d (.int .i64 a0.State.Tool),.d (.int .i64 a0.State.Offset),.d (.int .i64 a0.Cycle.Code),.d (.int .i64 a0.Cycle.R),.d (.int .i64 a0.Cycle.Z),.d (.int .i64 a0.Cycle.Q),.d (.int .i64 a0.Cycle.Rate),.d (.int .i64 a0.Cycle.Initial),.d (.bool a0.Cycle.High),.d (.int .i64 a0.At.X),.d (.int .i64 a0.At.Y),.d (.int .i64 a0.At.Z)],[.d (.bool a1.Skip),.d (.list (List.map encApiWord a1.Words)),.d (.str a1.Comment)],[.d (.int .i64 a2.Work.e0.X),.d (.int .i64 a2.Work.e0.Y),.d (.int .i64 a2.Work.e0.Z),.d (.int .i64 a2.Work.e1.X),.d (.int .i64 a2.Work.e1.Y),.d (.int .i64 a2.Work.e1.Z),.d (.int .i64 a2.Work.e2.X),.d (.int .i64 a2.Work.e2.Y),.d (.int .i64 a2.Work.e2.Z),.d (.int .i64 a2.Work.e3.X),.d (.int .i64 a2.Work.e3.Y),.d (.int .i64 a2.Work.e3.Z),.d (.int .i64 a2.Work.e4.X),.d (.int .i64 a2.Work.e4.Y),.d (.int .i64 a2.Work.e4.Z),.d (.int .i64 a2.Work.e5.X),.d (.int .i64 a2.Work.e5.Y),.d (.int .i64 a2.Work.e5.Z),.d (.list (List.map encR45Length a2.Lengths))],[.d (.int .i64 0),.d (.int .i64 0),.d (.int .i64 0),.d (.int .i64 0),.d (.int .i64 0),.d (.int .i64 0),.d (.int .i64 0),.d (.int .i64 0),.d (.int .i64 0),.d (.int .i64 0),.d (.int .i64 0),.d (.int .i64 0),.d (.int .i64 0),.d (.int .i64 0),.d (.bool false),.d (.int .i64 0),.d (.int .i64 0),.d (.int .i64 0)],[.d (.int .i64 y4.1.Motion),.d (.int .i64 y4.1.Distance),.d (.int .i64 y4.1.Work),.d (.int .i64 y4.1.Length),.d (.int .i64 y4.1.Return),.d (.int .i64 y4.1.Feed),.d (.int .i64 y4.1.Tool),.d (.int .i64 y4.1.Offset)],[.d (.int .i64 v4.2.State.Motion),.d (.int .i64 v4.2.State.Distance),.d (.int .i64 v4.2.State.Work),.d (.int .i64 v4.2.State.Length),.d (.int .i64 v4.2.State.Return),.d (.int .i64 v4.2.State.Feed),.d (.int .i64 v4.2.State.Tool),.d (.int .i64 v4.2.State.Offset),.d (.int .i64 v4.2.Cycle.Code),.d (.int .i64 v4.2.Cycle.R),.d (.int .i64 v4.2.Cycle.Z),.d (.int .i64 v4.2.Cycle.Q),.d (.int .i64 v4.2.Cycle.Rate),.d (.int .i64 v4.2.Cycle.Initial),.d (.bool v4.2.Cycle.High),.d (.int .i64 v4.2.At.X),.d (.int .i64 v4.2.At.Y),.d (.int .i64 v4.2.At.Z)],[.d (.int .i64 v3.2.2.X),.d (.int .i64 v3.2.2.Y),.d (.int .i64 v3.2.2.Z)],[.d (.int .i64 y16.2.1.Code),.d (.int .i64 y16.2.1.R),.d (.int .i64 y16.2.1.Z),.d (.int .i64 y16.2.1.Q),.d (.int .i64 y16.2.1.Rate),.d (.int .i64 y16.2.1.Initial),.d (.bool y16.2.1.High)],[.d (.int .i64 y19.1.X),.d (.int .i64 y19.1.Y),.d (.int .i64 y19.1.Z)]],[(73,v5.length)]⟩) (fun _=>rfl) ?_ ?_) h
 refine .cond rfl (fun h6=>?_) (fun h6=>?_)
 refine .guard fun q5=>.regionD [] (by kernel_rfl) fun e h=>?_
 simp only [seval,EMW,SB,fld_29_2,sz_27,ag_27,und_102,sz_111,q2,Int.toNat_natCast,fld_111_3,sz_2,ag_2,fld_23_6,zero_73,pl_73,und_43,sz_73,(oL 9),app_43,al_ApiMotion,q5]
 cases h
 simp only [seval,FMW,Tryz.results11,ag_29,sz_29]
 refine .skip fun e h=>?_
 cases h
 simp only [seval,FMW,Tryz.results11,ag_29,sz_29]
 intro v5
 refine Mir.toK (.region fun e h=>?_)
 simp only [seval,EMW,ag_27,sz_27,fld_29_2]
 refine mU e (.region fun e h=>?_) h
 simp only [seval,EMW]
 cases h
 simp only [seval,FMW,Tryz.results11,ag_29,sz_29,q4]
 intro v4 q6
 refine .seqK (.sR fun e h=>?_)
 simp only [seval,EMW,und_105,q6]
 refine mU e (.condF rfl (.exit fun e h=>?_)) h
 cases h
 simp only [seval,FMW,Tryz.results11,ag_29,sz_29]
 intro v6
 refine Mir.toK (.region fun e h=>?_)
 simp only [seval,EMW,und_102,sz_111,q2,Int.toNat_natCast,fld_111_1,sz_27,ag_27]
 cases h
 simp only [seval,FMW,Tryz.results11,ag_29,sz_29]
 intro v7
 refine Mir.toK (.region fun e h=>?_)
 simp only [seval,EMW]
 cases h
 simp only [seval,FMW,Tryz.results11,ag_29,sz_29,q2]
 intro v3 q7
 refine .seqK (.sR fun e h=>?_)
 simp only [seval,EMW,und_102,q7]
 refine mU e (.condF rfl (.exit fun e h=>?_)) h
 cases h
 simp only [seval,FMW,Tryz.results11,ag_29,sz_29]
 intro v8
 refine Mir.toK (.seqK (.regionD [] (by kernel_rfl) fun e h=>?_))
 simp only [seval,EMW,SB,ag_29,sz_29]
 refine mU e (.ret fun e h=>?_) h
 cases h
 simp only [seval,FMW,Tryz.results11,ag_29,sz_29]
def r42_New  : Option R42State := some (R42State.mk 0 90000 54000 49000 98000 0 0 0)
theorem r42_New_spec  {y : R42State} (h : r42_New = some y) : Spec gP 51 [] (.agg [.d (.int .i64 y.Motion),.d (.int .i64 y.Distance),.d (.int .i64 y.Work),.d (.int .i64 y.Length),.d (.int .i64 y.Return),.d (.int .i64 y.Feed),.d (.int .i64 y.Tool),.d (.int .i64 y.Offset)]) := by
 refine spec_mir Tryz.func51 rfl (by kernel_rfl) (by kernel_rfl) (fun y : R42State=>.agg [.d (.int .i64 y.Motion),.d (.int .i64 y.Distance),.d (.int .i64 y.Work),.d (.int .i64 y.Length),.d (.int .i64 y.Return),.d (.int .i64 y.Feed),.d (.int .i64 y.Tool),.d (.int .i64 y.Offset)]) ?_ h
 unfold r42_New
 simp only [List.replicate,List.length,nS,nA,Tryz.ntmps51,SV]
 refine .sR fun e h=>?_
 simp only [seval,EMW,zero_23]
 refine mU e (.sR fun e h=>?_) h
 simp only [seval,EMW,zero_23,pl_23,sz_23]
 refine mU e (.ret fun e h=>?_) h
 cases h
 simp only [seval,FMW,Tryz.results51,ag_23,sz_23]
def r47_ends (a0 : ApiBlock) : Option Bool := bindO (r47_value a0 77) fun (y1 : Int)=>some (y1 == 30000)
theorem r47_ends_spec {a0 : ApiBlock} {y : Bool} (h : r47_ends a0 = some y) : Spec gP 52 [.agg [.d (.bool a0.Skip),.d (.list (List.map encApiWord a0.Words)),.d (.str a0.Comment)]] (.d (.bool y)) := by
 refine spec_mir Tryz.func52 rfl (by kernel_rfl) (by kernel_rfl) (fun y : Bool=>.d (.bool y)) ?_ h
 unfold r47_ends
 simp only [List.replicate,List.length,nS,nA,Tryz.ntmps52,SV]
 refine .sR fun e h=>?_
 simp only [seval,EMW]
 refine mU e (.seqK (.bind fun y1 hy1=>.region fun e h=>?_)) h
 simp only [seval,EMW,ag_32,sz_32]
 refine SpecS.by (r47_value_spec hy1) (by simp only [seval,FMW]) ?_
 simp only [seval,EMW]
 refine mU e (.ret fun e h=>?_) h
 cases h
 simp only [seval,FMW,Tryz.results52]
def r47_Blocks (a0 : (List ApiBlock)) (a1 : R45Table) (a2 : ApiPos) : Option ((List ApiMotion) × R47Alarm) := bindO (r45_Valid a1) fun (y1 : Int)=>if (y1 != 0) = true then some ([],R47Alarm.mk (-1) 1) else bindO (r47_InRange a2) fun (y2 : Bool)=>if (!y2) = true then some ([],R47Alarm.mk (-1) 11) else bindO (r42_New ) fun (y3 : R42State)=>bindX (guardO (okIdx a0) ( rangeX (fun (i1 : Nat) (e1 : ApiBlock) (v1 : (List ApiMotion) × R47Machine)=>bindO (r47_Step v1.2 e1 a1 (i1 : Int)) fun (y4 : (List ApiMotion) × R47Machine × Int)=>bindO (if ((y4.2.2 == 0) && (decide ((IntKind.i64.wrap ((v1.1.length : Int) + (y4.1.length : Int))) > 20000))) = true then some 3 else some y4.2.2) fun (v2 : Int)=>if (v2 != 0) = true then some (.ret (.ret (v1.1,R47Alarm.mk (i1 : Int) v2))) else guardO (okLen (v1.1.length + y4.1.length)) ( bindO (r47_ends e1) fun (y5 : Bool)=>if y5 = true then some (.ret (.ret (v1.1 ++ y4.1,R47Alarm.mk (-1) 0))) else some (.go (v1.1 ++ y4.1,y4.2.1)))) (fun (v1 : (List ApiMotion) × R47Machine)=>some (.go (v1.1,v1.2))) a0 0 ([],R47Machine.mk y3 (R44Cycle.mk 0 0 0 0 0 0 false) a2))) fun (v3 : (List ApiMotion) × R47Machine)=>some (v3.1,R47Alarm.mk (a0.length : Int) 13)
theorem r47_Blocks_spec {a0 : (List ApiBlock)} {a1 : R45Table} {a2 : ApiPos} {y : (List ApiMotion) × R47Alarm} (h : r47_Blocks a0 a1 a2 = some y) : Spec gP 18 [.d (.list (List.map encApiBlock a0)),.agg [.d (.int .i64 a1.Work.e0.X),.d (.int .i64 a1.Work.e0.Y),.d (.int .i64 a1.Work.e0.Z),.d (.int .i64 a1.Work.e1.X),.d (.int .i64 a1.Work.e1.Y),.d (.int .i64 a1.Work.e1.Z),.d (.int .i64 a1.Work.e2.X),.d (.int .i64 a1.Work.e2.Y),.d (.int .i64 a1.Work.e2.Z),.d (.int .i64 a1.Work.e3.X),.d (.int .i64 a1.Work.e3.Y),.d (.int .i64 a1.Work.e3.Z),.d (.int .i64 a1.Work.e4.X),.d (.int .i64 a1.Work.e4.Y),.d (.int .i64 a1.Work.e4.Z),.d (.int .i64 a1.Work.e5.X),.d (.int .i64 a1.Work.e5.Y),.d (.int .i64 a1.Work.e5.Z),.d (.list (List.map encR45Length a1.Lengths))],.agg [.d (.int .i64 a2.X),.d (.int .i64 a2.Y),.d (.int .i64 a2.Z)]] (.tuple [.d (.list (List.map encApiMotion y.1)),.agg [.d (.int .i64 y.2.Block),.d (.int .i64 y.2.Code)]]) := by
 refine spec_mir Tryz.func18 rfl (by kernel_rfl) (by kernel_rfl) (fun y : (List ApiMotion) × R47Alarm=>.tuple [.d (.list (List.map encApiMotion y.1)),.agg [.d (.int .i64 y.2.Block),.d (.int .i64 y.2.Code)]]) ?_ h
 unfold r47_Blocks
 simp only [List.replicate,List.length,nS,nA,Tryz.ntmps18,SV]
 refine .sR fun e h=>?_
 simp only [seval,EMW,zero_66]
 refine mU e (.seqK (.seqK (.bind fun y1 hy1=>.region fun e h=>?_))) h
 simp only [seval,EMW,ag_36,sz_36]
 refine SpecS.by (r45_Valid_spec hy1) (by simp only [seval,FMW]) ?_
 simp only [seval,EMW]
 refine mU e (.cond rfl (fun hb3=>?_) (fun hb3=>?_)) h
 refine .sR fun e h=>?_
 simp only [seval,EMW,zero_66,pl_66,sz_66]
 refine mU e (.ret fun e h=>?_) h
 cases h
 simp only [seval,FMW,Tryz.results18,ag_66,sz_66]
 refine .skip (Mir.toK (.seqK (.seqK (.bind fun y2 hy4=>.region fun e h=>?_))))
 simp only [seval,EMW,ag_27,sz_27]
 refine SpecS.by (r47_InRange_spec hy4) (by simp only [seval,FMW]) ?_
 simp only [seval,EMW]
 refine mU e (.cond rfl (fun hb6=>?_) (fun hb6=>?_)) h
 refine .sR fun e h=>?_
 simp only [seval,EMW,zero_66,pl_66,sz_66]
 refine mU e (.ret fun e h=>?_) h
 cases h
 simp only [seval,FMW,Tryz.results18,ag_66,sz_66]
 refine .skip (Mir.toK (.seqK (.bind fun y3 hy7=>.regionD [] (by kernel_rfl) fun e h=>?_)))
 simp only [seval,EMW,SB]
 refine Spec.by (r42_New_spec hy7) (rfl) ?_
 simp only [seval,EMW,SB,ag_27,sz_27,zero_29,pl_29,sz_29]
 refine mU e (.sR fun e h=>?_) h
 simp only [seval,EMW]
 refine mU e (.seqK (.sR fun e h=>?_)) h
 simp only [seval,EMW]
 refine mU e (.gh [.slot 9 73] rfl (Mir.join (fun v3 : (List ApiMotion) × R47Machine=>([.d (.list (List.map encApiBlock a0)),U,U,U,U,U,U,.ptr 2 0,U,.own 0 (List.map encApiMotion v3.1)] ++ us 64)) (fun v3=>⟨[[.d (.int .i64 a1.Work.e0.X),.d (.int .i64 a1.Work.e0.Y),.d (.int .i64 a1.Work.e0.Z),.d (.int .i64 a1.Work.e1.X),.d (.int .i64 a1.Work.e1.Y),.d (.int .i64 a1.Work.e1.Z),.d (.int .i64 a1.Work.e2.X),.d (.int .i64 a1.Work.e2.Y),.d (.int .i64 a1.Work.e2.Z),.d (.int .i64 a1.Work.e3.X),.d (.int .i64 a1.Work.e3.Y),.d (.int .i64 a1.Work.e3.Z),.d (.int .i64 a1.Work.e4.X),.d (.int .i64 a1.Work.e4.Y),.d (.int .i64 a1.Work.e4.Z),.d (.int .i64 a1.Work.e5.X),.d (.int .i64 a1.Work.e5.Y),.d (.int .i64 a1.Work.e5.Z),.d (.list (List.map encR45Length a1.Lengths))],[.d (.int .i64 a2.X),.d (.int .i64 a2.Y),.d (.int .i64 a2.Z)],[.d (.int .i64 0),.d (.int .i64 0)],[.d (.int .i64 v3.2.State.Motion),.d (.int .i64 v3.2.State.Distance),.d (.int .i64 v3.2.State.Work),.d (.int .i64 v3.2.State.Length),.d (.int .i64 v3.2.State.Return),.d (.int .i64 v3.2.State.Feed),.d (.int .i64 v3.2.State.Tool),.d (.int .i64 v3.2.State.Offset),.d (.int .i64 v3.2.Cycle.Code),.d (.int .i64 v3.2.Cycle.R),.d (.int .i64 v3.2.Cycle.Z),.d (.int .i64 v3.2.Cycle.Q),.d (.int .i64 v3.2.Cycle.Rate),.d (.int .i64 v3.2.Cycle.Initial),.d (.bool v3.2.Cycle.High),.d (.int .i64 v3.2.At.X),.d (.int .i64 v3.2.At.Y),.d (.int .i64 v3.2.At.Z)]],[(73,v3.1.length)]⟩) (fun _=>rfl) ?_ ?_)) h
 refine .block (.guard fun q1=>Mir.range (fun (i1 : Nat) (v1 : (List ApiMotion) × R47Machine)=>([.d (.list (List.map encApiBlock a0)),U,U,U,.ptr 0 0,U,U,.ptr 2 0,.ptr 3 0,.own 0 (List.map encApiMotion v1.1),.d (.int .i64 (i1 : Int))] ++ us 63)) (fun i1 v1=>⟨[[.d (.int .i64 a1.Work.e0.X),.d (.int .i64 a1.Work.e0.Y),.d (.int .i64 a1.Work.e0.Z),.d (.int .i64 a1.Work.e1.X),.d (.int .i64 a1.Work.e1.Y),.d (.int .i64 a1.Work.e1.Z),.d (.int .i64 a1.Work.e2.X),.d (.int .i64 a1.Work.e2.Y),.d (.int .i64 a1.Work.e2.Z),.d (.int .i64 a1.Work.e3.X),.d (.int .i64 a1.Work.e3.Y),.d (.int .i64 a1.Work.e3.Z),.d (.int .i64 a1.Work.e4.X),.d (.int .i64 a1.Work.e4.Y),.d (.int .i64 a1.Work.e4.Z),.d (.int .i64 a1.Work.e5.X),.d (.int .i64 a1.Work.e5.Y),.d (.int .i64 a1.Work.e5.Z),.d (.list (List.map encR45Length a1.Lengths))],[.d (.int .i64 a2.X),.d (.int .i64 a2.Y),.d (.int .i64 a2.Z)],[.d (.int .i64 0),.d (.int .i64 0)],[.d (.int .i64 v1.2.State.Motion),.d (.int .i64 v1.2.State.Distance),.d (.int .i64 v1.2.State.Work),.d (.int .i64 v1.2.State.Length),.d (.int .i64 v1.2.State.Return),.d (.int .i64 v1.2.State.Feed),.d (.int .i64 v1.2.State.Tool),.d (.int .i64 v1.2.State.Offset),.d (.int .i64 v1.2.Cycle.Code),.d (.int .i64 v1.2.Cycle.R),.d (.int .i64 v1.2.Cycle.Z),.d (.int .i64 v1.2.Cycle.Q),.d (.int .i64 v1.2.Cycle.Rate),.d (.int .i64 v1.2.Cycle.Initial),.d (.bool v1.2.Cycle.High),.d (.int .i64 v1.2.At.X),.d (.int .i64 v1.2.At.Y),.d (.int .i64 v1.2.At.Z)]],[(73,v1.1.length)]⟩) q1 (fun _ _=>rfl) (by simp only [seval,FMW,zNI]) (by simp only [seval,FMW,zNI]) ?_ ?_)
 intro i1 e1 v1 q2
 refine .seqK (.sR fun e h=>?_)
 simp only [seval,EMW,und_39,q2]
 refine mU e (.condT rfl (.skip (Mir.toK (.seqK (.block (.seqK (.bind fun y4 h1=>.regionD [] (by kernel_rfl) fun e h=>?_))))))) h
 simp only [seval,EMW,SB,ag_29,sz_29,und_39,sz_32,q2,Int.toNat_natCast,ag_32,ag_36,sz_36]
 refine Spec.by (r47_Step_spec h1) (by simp only [seval,FMW]) ?_
 simp only [seval,EMW,SB,zero_29,sz_29]
 refine mU e (.seqK (.seqK (.joinV ([.d (.list (List.map encApiBlock a0)),U,U,U,.ptr 0 0,U,U,.ptr 2 0,.ptr 3 0,.own 0 (List.map encApiMotion v1.1),.d (.int .i64 (i1 : Int)),.d (.list (List.map encApiMotion y4.1)),.ptr 4 0,.d (.int .i64 y4.2.2),U,U,U,U,U,U,U,U,U,U,U,U,U,U,U,U,U,U,U,U,U,U,U,U,U,U,U,U,U,U,U,U,U,U,U,U,U,U,.d (.bool ((y4.2.2 == 0) && (decide ((IntKind.i64.wrap ((v1.1.length : Int) + (y4.1.length : Int))) > 20000))))] ++ us 21) ⟨[[.d (.int .i64 a1.Work.e0.X),.d (.int .i64 a1.Work.e0.Y),.d (.int .i64 a1.Work.e0.Z),.d (.int .i64 a1.Work.e1.X),.d (.int .i64 a1.Work.e1.Y),.d (.int .i64 a1.Work.e1.Z),.d (.int .i64 a1.Work.e2.X),.d (.int .i64 a1.Work.e2.Y),.d (.int .i64 a1.Work.e2.Z),.d (.int .i64 a1.Work.e3.X),.d (.int .i64 a1.Work.e3.Y),.d (.int .i64 a1.Work.e3.Z),.d (.int .i64 a1.Work.e4.X),.d (.int .i64 a1.Work.e4.Y),.d (.int .i64 a1.Work.e4.Z),.d (.int .i64 a1.Work.e5.X),.d (.int .i64 a1.Work.e5.Y),.d (.int .i64 a1.Work.e5.Z),.d (.list (List.map encR45Length a1.Lengths))],[.d (.int .i64 a2.X),.d (.int .i64 a2.Y),.d (.int .i64 a2.Z)],[.d (.int .i64 0),.d (.int .i64 0)],[.d (.int .i64 v1.2.State.Motion),.d (.int .i64 v1.2.State.Distance),.d (.int .i64 v1.2.State.Work),.d (.int .i64 v1.2.State.Length),.d (.int .i64 v1.2.State.Return),.d (.int .i64 v1.2.State.Feed),.d (.int .i64 v1.2.State.Tool),.d (.int .i64 v1.2.State.Offset),.d (.int .i64 v1.2.Cycle.Code),.d (.int .i64 v1.2.Cycle.R),.d (.int .i64 v1.2.Cycle.Z),.d (.int .i64 v1.2.Cycle.Q),.d (.int .i64 v1.2.Cycle.Rate),.d (.int .i64 v1.2.Cycle.Initial),.d (.bool v1.2.Cycle.High),.d (.int .i64 v1.2.At.X),.d (.int .i64 v1.2.At.Y),.d (.int .i64 v1.2.At.Z)],[.d (.int .i64 y4.2.1.State.Motion),.d (.int .i64 y4.2.1.State.Distance),.d (.int .i64 y4.2.1.State.Work),.d (.int .i64 y4.2.1.State.Length),.d (.int .i64 y4.2.1.State.Return),.d (.int .i64 y4.2.1.State.Feed),.d (.int .i64 y4.2.1.State.Tool),.d (.int .i64 y4.2.1.State.Offset),.d (.int .i64 y4.2.1.Cycle.Code),.d (.int .i64 y4.2.1.Cycle.R),.d (.int .i64 y4.2.1.Cycle.Z),.d (.int .i64 y4.2.1.Cycle.Q),.d (.int .i64 y4.2.1.Cycle.Rate),.d (.int .i64 y4.2.1.Cycle.Initial),.d (.bool y4.2.1.Cycle.High),.d (.int .i64 y4.2.1.At.X),.d (.int .i64 y4.2.1.At.Y),.d (.int .i64 y4.2.1.At.Z)]],[(73,v1.1.length)]⟩ rfl ?_ ?_))) h
 refine SWs.region ?_
 rcases Bool.eq_false_or_eq_true (y4.2.2 == 0) with h2 | h2
 simp only [seval,EMW,SL,PB,und_43,h2]
 simp only [seval,EMW,SL,PB,h2]
 refine Mir.toK (Mir.joinO (fun v2 : Int=>([.d (.list (List.map encApiBlock a0)),U,U,U,.ptr 0 0,U,U,.ptr 2 0,.ptr 3 0,.own 0 (List.map encApiMotion v1.1),.d (.int .i64 (i1 : Int)),.d (.list (List.map encApiMotion y4.1)),.ptr 4 0,.d (.int .i64 v2)] ++ us 60)) (fun v2=>⟨[[.d (.int .i64 a1.Work.e0.X),.d (.int .i64 a1.Work.e0.Y),.d (.int .i64 a1.Work.e0.Z),.d (.int .i64 a1.Work.e1.X),.d (.int .i64 a1.Work.e1.Y),.d (.int .i64 a1.Work.e1.Z),.d (.int .i64 a1.Work.e2.X),.d (.int .i64 a1.Work.e2.Y),.d (.int .i64 a1.Work.e2.Z),.d (.int .i64 a1.Work.e3.X),.d (.int .i64 a1.Work.e3.Y),.d (.int .i64 a1.Work.e3.Z),.d (.int .i64 a1.Work.e4.X),.d (.int .i64 a1.Work.e4.Y),.d (.int .i64 a1.Work.e4.Z),.d (.int .i64 a1.Work.e5.X),.d (.int .i64 a1.Work.e5.Y),.d (.int .i64 a1.Work.e5.Z),.d (.list (List.map encR45Length a1.Lengths))],[.d (.int .i64 a2.X),.d (.int .i64 a2.Y),.d (.int .i64 a2.Z)],[.d (.int .i64 0),.d (.int .i64 0)],[.d (.int .i64 v1.2.State.Motion),.d (.int .i64 v1.2.State.Distance),.d (.int .i64 v1.2.State.Work),.d (.int .i64 v1.2.State.Length),.d (.int .i64 v1.2.State.Return),.d (.int .i64 v1.2.State.Feed),.d (.int .i64 v1.2.State.Tool),.d (.int .i64 v1.2.State.Offset),.d (.int .i64 v1.2.Cycle.Code),.d (.int .i64 v1.2.Cycle.R),.d (.int .i64 v1.2.Cycle.Z),.d (.int .i64 v1.2.Cycle.Q),.d (.int .i64 v1.2.Cycle.Rate),.d (.int .i64 v1.2.Cycle.Initial),.d (.bool v1.2.Cycle.High),.d (.int .i64 v1.2.At.X),.d (.int .i64 v1.2.At.Y),.d (.int .i64 v1.2.At.Z)],[.d (.int .i64 y4.2.1.State.Motion),.d (.int .i64 y4.2.1.State.Distance),.d (.int .i64 y4.2.1.State.Work),.d (.int .i64 y4.2.1.State.Length),.d (.int .i64 y4.2.1.State.Return),.d (.int .i64 y4.2.1.State.Feed),.d (.int .i64 y4.2.1.State.Tool),.d (.int .i64 y4.2.1.State.Offset),.d (.int .i64 y4.2.1.Cycle.Code),.d (.int .i64 y4.2.1.Cycle.R),.d (.int .i64 y4.2.1.Cycle.Z),.d (.int .i64 y4.2.1.Cycle.Q),.d (.int .i64 y4.2.1.Cycle.Rate),.d (.int .i64 y4.2.1.Cycle.Initial),.d (.bool y4.2.1.Cycle.High),.d (.int .i64 y4.2.1.At.X),.d (.int .i64 y4.2.1.At.Y),.d (.int .i64 y4.2.1.At.Z)]],[(73,v1.1.length)]⟩) (fun _=>rfl) ?_ ?_)
 refine .cond rfl (fun h3=>?_) (fun h3=>?_)
 refine .region fun e h=>?_
 simp only [seval,EMW]
 cases h
 simp only [seval,FMW,Tryz.results18,ag_66,sz_66]
 refine .skip fun e h=>?_
 cases h
 simp only [seval,FMW,Tryz.results18,ag_66,sz_66]
 intro v2
 refine Mir.toK (.seqK (.sR fun e h=>?_))
 simp only [seval,EMW]
 refine mU e (.cond rfl (fun h4=>?_) (fun h4=>?_)) h
 refine .sR fun e h=>?_
 simp only [seval,EMW,zero_66,pl_66,sz_66]
 refine mU e (.ret fun e h=>?_) h
 cases h
 simp only [seval,FMW,Tryz.results18,ag_66,sz_66]
 refine .skip (Mir.toK (.seqK (.guard fun q3=>.regionD [] (by kernel_rfl) fun e h=>?_)))
 simp only [seval,EMW,SB,app_43,al_ApiMotion,q3,ag_29,sz_29]
 refine mU e (.seqK (.bind fun y5 h5=>.region fun e h=>?_)) h
 simp only [seval,EMW,und_39,sz_32,q2,Int.toNat_natCast,ag_32]
 refine SpecS.by (r47_ends_spec h5) (by simp only [seval,FMW]) ?_
 simp only [seval,EMW]
 refine mU e (.cond rfl (fun h6=>?_) (fun h6=>?_)) h
 refine .sR fun e h=>?_
 simp only [seval,EMW,zero_66,pl_66,sz_66]
 refine mU e (.ret fun e h=>?_) h
 cases h
 simp only [seval,FMW,Tryz.results18,ag_66,sz_66]
 refine .skip (Mir.toB (Mir.toK (.region fun e h=>?_)))
 simp only [seval,EMW]
 cases h
 simp only [seval,FMW,Tryz.results18,ag_66,sz_66,q2]
 intro v1 q4
 refine .seqK (.sR fun e h=>?_)
 simp only [seval,EMW,und_39,q4]
 refine mU e (.condF rfl (.exit fun e h=>?_)) h
 cases h
 simp only [seval,FMW,Tryz.results18,ag_66,sz_66]
 intro v3
 refine Mir.toK (.sR fun e h=>?_)
 simp only [seval,EMW,und_39,zero_66,pl_66,sz_66]
 refine mU e (.ret fun e h=>?_) h
 cases h
 simp only [seval,FMW,Tryz.results18,ag_66,sz_66]
end Go.Proofs.YtopjpenbieojmaaGreatDoor
