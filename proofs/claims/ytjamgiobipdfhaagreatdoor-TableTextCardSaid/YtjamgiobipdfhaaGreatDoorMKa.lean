import Derived.Test.YtjamgiobipdfhaaGreatDoorGx
import Derived.Test.YtjamgiobipdfhaaGreatDoorTy
import Derived.Test.YtjamgiobipdfhaaGreatDoorBu
import Derived.Test.YtjamgiobipdfhaaGreatDoorGz
import Derived.Test.YtjamgiobipdfhaaGreatDoorInx
import Derived.Test.YtjamgiobipdfhaaGreatDoorLbe
import Derived.Test.YtjamgiobipdfhaaGreatDoorSzz
import Derived.Test.YtjamgiobipdfhaaGreatDoorMI
import Derived.Test.YtjamgiobipdfhaaGreatDoorMQ
import Derived.Test.YtjamgiobipdfhaaGreatDoorMB
import Derived.Test.YtjamgiobipdfhaaGreatDoorMT
import Derived.Test.YtjamgiobipdfhaaGreatDoorMX
namespace Go.Proofs.YtjamgiobipdfhaaGreatDoor
open Go.RowKit
open Nat renaming reduceAdd → nA,reduceSub → nS,reduceMul → nM,reduceEqDiff → nE,reduceLeDiff → nL,reduceLT → nT,reduceBEq → nB
open Int renaming reduceLT → iT,reduceToNat → iN,reduceEq → iE
set_option linter.unusedVariables false
set_option linter.unusedSimpArgs false
set_option maxRecDepth 100000
set_option maxHeartbeats 8000000
structure TableLength where
 Number : Int
 Length : Int
 deriving DecidableEq
def encTableLength (x : TableLength) : List D := [.int .i64 x.Number,.int .i64 x.Length]
theorem al_TableLength {l : List TableLength} : (List.map encTableLength l).all (fun x=>x.length == 2) = true := by simp [List.all_eq_true,encTableLength]
structure ApiPos where
 X : Int
 Y : Int
 Z : Int
 deriving DecidableEq
def encApiPos (x : ApiPos) : List D := [.int .i64 x.X,.int .i64 x.Y,.int .i64 x.Z]
structure Arr6ApiPos where
 e0 : ApiPos
 e1 : ApiPos
 e2 : ApiPos
 e3 : ApiPos
 e4 : ApiPos
 e5 : ApiPos
 deriving DecidableEq
def encArr6ApiPos (x : Arr6ApiPos) : List D := [.int .i64 x.e0.X,.int .i64 x.e0.Y,.int .i64 x.e0.Z,.int .i64 x.e1.X,.int .i64 x.e1.Y,.int .i64 x.e1.Z,.int .i64 x.e2.X,.int .i64 x.e2.Y,.int .i64 x.e2.Z,.int .i64 x.e3.X,.int .i64 x.e3.Y,.int .i64 x.e3.Z,.int .i64 x.e4.X,.int .i64 x.e4.Y,.int .i64 x.e4.Z,.int .i64 x.e5.X,.int .i64 x.e5.Y,.int .i64 x.e5.Z]
structure TableTable where
 Work : Arr6ApiPos
 Lengths : (List TableLength)
 deriving DecidableEq
def encTableTable (x : TableTable) : List D := [.int .i64 x.Work.e0.X,.int .i64 x.Work.e0.Y,.int .i64 x.Work.e0.Z,.int .i64 x.Work.e1.X,.int .i64 x.Work.e1.Y,.int .i64 x.Work.e1.Z,.int .i64 x.Work.e2.X,.int .i64 x.Work.e2.Y,.int .i64 x.Work.e2.Z,.int .i64 x.Work.e3.X,.int .i64 x.Work.e3.Y,.int .i64 x.Work.e3.Z,.int .i64 x.Work.e4.X,.int .i64 x.Work.e4.Y,.int .i64 x.Work.e4.Z,.int .i64 x.Work.e5.X,.int .i64 x.Work.e5.Y,.int .i64 x.Work.e5.Z,.list (List.map encTableLength x.Lengths)]
structure R45Length where
 Number : Int
 Length : Int
 deriving DecidableEq
def encR45Length (x : R45Length) : List D := [.int .i64 x.Number,.int .i64 x.Length]
theorem al_R45Length {l : List R45Length} : (List.map encR45Length l).all (fun x=>x.length == 2) = true := by simp [List.all_eq_true,encR45Length]
structure R45Table where
 Work : Arr6ApiPos
 Lengths : (List R45Length)
 deriving DecidableEq
def encR45Table (x : R45Table) : List D := [.int .i64 x.Work.e0.X,.int .i64 x.Work.e0.Y,.int .i64 x.Work.e0.Z,.int .i64 x.Work.e1.X,.int .i64 x.Work.e1.Y,.int .i64 x.Work.e1.Z,.int .i64 x.Work.e2.X,.int .i64 x.Work.e2.Y,.int .i64 x.Work.e2.Z,.int .i64 x.Work.e3.X,.int .i64 x.Work.e3.Y,.int .i64 x.Work.e3.Z,.int .i64 x.Work.e4.X,.int .i64 x.Work.e4.Y,.int .i64 x.Work.e4.Z,.int .i64 x.Work.e5.X,.int .i64 x.Work.e5.Y,.int .i64 x.Work.e5.Z,.list (List.map encR45Length x.Lengths)]
theorem ENMK : type_of% (And.intro @encTableLength.eq_1 <| And.intro @encApiPos.eq_1 <| And.intro @encArr6ApiPos.eq_1 <| And.intro @encTableTable.eq_1 <| And.intro @encR45Length.eq_1 <| @encR45Table.eq_1) := And.intro @encTableLength.eq_1 <| And.intro @encApiPos.eq_1 <| And.intro @encArr6ApiPos.eq_1 <| And.intro @encTableTable.eq_1 <| And.intro @encR45Length.eq_1 <| @encR45Table.eq_1
theorem EMK : type_of% (And.intro @SE <| @ENMK) := And.intro @SE <| @ENMK
theorem FMK : type_of% (And.intro @SF <| @ENMK) := And.intro @SF <| @ENMK
def tb_far (a0 : ApiPos) : Option Bool := some ((decide ((mmI true (mmI true a0.X a0.Y) a0.Z) > 10000000)) || (decide ((mmI false (mmI false a0.X a0.Y) a0.Z) < (-10000000))))
theorem tb_far_spec {a0 : ApiPos} {y : Bool} (h : tb_far a0 = some y) : Spec gP 30 [.agg [.d (.int .i64 a0.X),.d (.int .i64 a0.Y),.d (.int .i64 a0.Z)]] (.d (.bool y)) := by
 refine spec_mir Tryz.func30 rfl (by kernel_rfl) (by kernel_rfl) (fun y : Bool=>.d (.bool y)) ?_ h
 unfold tb_far
 simp only [List.replicate,List.length,nS,nA,Tryz.ntmps30,SV]
 refine .sR fun e h=>?_
 simp only [seval,EMK]
 refine mU e (.sR fun e h=>?_) h
 simp only [seval,EMK,fld_23_0,sz_2,ag_2,fld_23_1,fld_23_2]
 refine mU e (.sR fun e h=>?_) h
 simp only [seval,EMK,fld_23_0,sz_2,ag_2,fld_23_1,fld_23_2]
 refine mU e (.seqK (.joinV ([U,U,.d (.bool ((decide ((mmI true (mmI true a0.X a0.Y) a0.Z) > 10000000)) || (decide ((mmI false (mmI false a0.X a0.Y) a0.Z) < (-10000000)))))] ++ us 22) ⟨[[.d (.int .i64 a0.X),.d (.int .i64 a0.Y),.d (.int .i64 a0.Z)]],[]⟩ rfl ?_ ?_)) h
 refine SWs.region ?_
 rcases Bool.eq_false_or_eq_true (decide ((mmI true (mmI true a0.X a0.Y) a0.Z) > 10000000)) with hb1 | hb1
 simp only [seval,EMK,SL,PB,hb1]
 simp only [seval,EMK,SL,PB,hb1]
 refine Mir.toK (.ret fun e h=>?_)
 cases h
 simp only [seval,FMK,Tryz.results30]
def tb_entry (a0 : TableLength) : Option Bool := some ((decide (a0.Number ≥ 1)) && ((decide (a0.Number ≤ 999)) && ((decide (a0.Length ≥ 0)) && (decide (a0.Length ≤ 10000000)))))
theorem tb_entry_spec {a0 : TableLength} {y : Bool} (h : tb_entry a0 = some y) : Spec gP 32 [.agg [.d (.int .i64 a0.Number),.d (.int .i64 a0.Length)]] (.d (.bool y)) := by
 refine spec_mir Tryz.func32 rfl (by kernel_rfl) (by kernel_rfl) (fun y : Bool=>.d (.bool y)) ?_ h
 unfold tb_entry
 simp only [List.replicate,List.length,nS,nA,Tryz.ntmps32,SV]
 refine .sR fun e h=>?_
 simp only [seval,EMK]
 refine mU e (.seqK (.joinV ([U,U,.d (.bool ((decide (a0.Number ≥ 1)) && ((decide (a0.Number ≤ 999)) && ((decide (a0.Length ≥ 0)) && (decide (a0.Length ≤ 10000000))))))] ++ us 18) ⟨[[.d (.int .i64 a0.Number),.d (.int .i64 a0.Length)]],[]⟩ rfl ?_ ?_)) h
 refine SWs.region ?_
 rcases Bool.eq_false_or_eq_true (decide (a0.Number ≥ 1)) with hb1 | hb1
 rcases Bool.eq_false_or_eq_true (decide (a0.Number ≤ 999)) with hb2 | hb2
 rcases Bool.eq_false_or_eq_true (decide (a0.Length ≥ 0)) with hb3 | hb3
 simp only [seval,EMK,SL,PB,fld_65_0,sz_2,ag_2,fld_65_1,hb1,hb2,hb3]
 simp only [seval,EMK,SL,PB,fld_65_0,sz_2,ag_2,fld_65_1,hb1,hb2,hb3]
 simp only [seval,EMK,SL,PB,fld_65_0,sz_2,ag_2,hb1,hb2]
 simp only [seval,EMK,SL,PB,fld_65_0,sz_2,ag_2,hb1]
 refine Mir.toK (.ret fun e h=>?_)
 cases h
 simp only [seval,FMK,Tryz.results32]
def tb_Valid (a0 : TableTable) : Option Int := bindO (bindO (bindX (bindO (tb_far a0.Work.e0) fun (y1 : Bool)=>if y1 = true then some (.ret 0) else bindO (tb_far a0.Work.e1) fun (y2 : Bool)=>if y2 = true then some (.ret 1) else bindO (tb_far a0.Work.e2) fun (y3 : Bool)=>if y3 = true then some (.ret 2) else bindO (tb_far a0.Work.e3) fun (y4 : Bool)=>if y4 = true then some (.ret 3) else bindO (tb_far a0.Work.e4) fun (y5 : Bool)=>if y5 = true then some (.ret 4) else bindO (tb_far a0.Work.e5) fun (y6 : Bool)=>if y6 = true then some (.ret 5) else some (.go ())) fun (v1 : Unit)=>some (-1)) fun (v2 : Int)=>some (decide (v2 ≥ 0))) fun (v3 : Bool)=>if v3 = true then some 1 else bindX (guardO (okIdx a0.Lengths) ( rangeX (fun (i1 : Nat) (e1 : TableLength) (v4 : Unit)=>bindO (bindO (tb_entry e1) fun (y7 : Bool)=>if y7 = true then if (decide ((i1 : Int) > 0)) = true then bindO (gt a0.Lengths (IntKind.i64.wrap ((i1 : Int) - 1))) fun (e2 : TableLength)=>some (decide (e2.Number ≥ e1.Number)) else some false else some true) fun (v5 : Bool)=>if v5 = true then some (.ret (.ret 1)) else some (.go ())) (fun (v4 : Unit)=>some (.go ())) a0.Lengths 0 ())) fun (v6 : Unit)=>some 0
theorem tb_Valid_spec {a0 : TableTable} {y : Int} (h : tb_Valid a0 = some y) : Spec gP 17 [.agg [.d (.int .i64 a0.Work.e0.X),.d (.int .i64 a0.Work.e0.Y),.d (.int .i64 a0.Work.e0.Z),.d (.int .i64 a0.Work.e1.X),.d (.int .i64 a0.Work.e1.Y),.d (.int .i64 a0.Work.e1.Z),.d (.int .i64 a0.Work.e2.X),.d (.int .i64 a0.Work.e2.Y),.d (.int .i64 a0.Work.e2.Z),.d (.int .i64 a0.Work.e3.X),.d (.int .i64 a0.Work.e3.Y),.d (.int .i64 a0.Work.e3.Z),.d (.int .i64 a0.Work.e4.X),.d (.int .i64 a0.Work.e4.Y),.d (.int .i64 a0.Work.e4.Z),.d (.int .i64 a0.Work.e5.X),.d (.int .i64 a0.Work.e5.Y),.d (.int .i64 a0.Work.e5.Z),.d (.list (List.map encTableLength a0.Lengths))]] (.d (.int .i64 y)) := by
 refine spec_mir Tryz.func17 rfl (by kernel_rfl) (by kernel_rfl) (fun y : Int=>.d (.int .i64 y)) ?_ h
 unfold tb_Valid
 simp only [List.replicate,List.length,nS,nA,Tryz.ntmps17,SV]
 refine .sR fun e h=>?_
 simp only [seval,EMK]
 refine mU e (.seqK (.seqK (.bind fun v3 hv62=>.region fun e h=>?_))) h
 simp only [seval,EMK,fld_34_0,sz_24,und_24,sz_23]
 refine SpecS.inl Tryz.func37 rfl (by kernel_rfl) (by kernel_rfl) (fun v3 : Bool=>.d (.bool v3)) (fun v3=>⟨[[.d (.int .i64 a0.Work.e0.X),.d (.int .i64 a0.Work.e0.Y),.d (.int .i64 a0.Work.e0.Z),.d (.int .i64 a0.Work.e1.X),.d (.int .i64 a0.Work.e1.Y),.d (.int .i64 a0.Work.e1.Z),.d (.int .i64 a0.Work.e2.X),.d (.int .i64 a0.Work.e2.Y),.d (.int .i64 a0.Work.e2.Z),.d (.int .i64 a0.Work.e3.X),.d (.int .i64 a0.Work.e3.Y),.d (.int .i64 a0.Work.e3.Z),.d (.int .i64 a0.Work.e4.X),.d (.int .i64 a0.Work.e4.Y),.d (.int .i64 a0.Work.e4.Z),.d (.int .i64 a0.Work.e5.X),.d (.int .i64 a0.Work.e5.Y),.d (.int .i64 a0.Work.e5.Z),.d (.list (List.map encTableLength a0.Lengths))]],[]⟩) hv62 rfl ?_ ?_
 simp only [List.replicate,List.length,nS,nA,Tryz.ntmps37,SV]
 refine .sR fun e h=>?_
 simp only [seval,EMK]
 refine mU e (.seqK (.bind fun v2 h1=>.region fun e h=>?_)) h
 simp only [seval,EMK]
 refine SpecS.inl Tryz.func63 rfl (by kernel_rfl) (by kernel_rfl) (fun v2 : Int=>.d (.int .i64 v2)) (fun v2=>⟨[[.d (.int .i64 a0.Work.e0.X),.d (.int .i64 a0.Work.e0.Y),.d (.int .i64 a0.Work.e0.Z),.d (.int .i64 a0.Work.e1.X),.d (.int .i64 a0.Work.e1.Y),.d (.int .i64 a0.Work.e1.Z),.d (.int .i64 a0.Work.e2.X),.d (.int .i64 a0.Work.e2.Y),.d (.int .i64 a0.Work.e2.Z),.d (.int .i64 a0.Work.e3.X),.d (.int .i64 a0.Work.e3.Y),.d (.int .i64 a0.Work.e3.Z),.d (.int .i64 a0.Work.e4.X),.d (.int .i64 a0.Work.e4.Y),.d (.int .i64 a0.Work.e4.Z),.d (.int .i64 a0.Work.e5.X),.d (.int .i64 a0.Work.e5.Y),.d (.int .i64 a0.Work.e5.Z),.d (.list (List.map encTableLength a0.Lengths))]],[]⟩) h1 rfl ?_ ?_
 simp only [List.replicate,List.length,nS,nA,Tryz.ntmps63,SV]
 refine .sR fun e h=>?_
 simp only [seval,EMK]
 refine mU e (.seqK (.sR fun e h=>?_)) h
 simp only [seval,EMK,und_88,(nr rfl : ((6 : Nat) : Int) = 6)]
 refine mU e (Mir.join (fun v1 : Unit=>(us 19)) (fun v1=>⟨[[.d (.int .i64 a0.Work.e0.X),.d (.int .i64 a0.Work.e0.Y),.d (.int .i64 a0.Work.e0.Z),.d (.int .i64 a0.Work.e1.X),.d (.int .i64 a0.Work.e1.Y),.d (.int .i64 a0.Work.e1.Z),.d (.int .i64 a0.Work.e2.X),.d (.int .i64 a0.Work.e2.Y),.d (.int .i64 a0.Work.e2.Z),.d (.int .i64 a0.Work.e3.X),.d (.int .i64 a0.Work.e3.Y),.d (.int .i64 a0.Work.e3.Z),.d (.int .i64 a0.Work.e4.X),.d (.int .i64 a0.Work.e4.Y),.d (.int .i64 a0.Work.e4.Z),.d (.int .i64 a0.Work.e5.X),.d (.int .i64 a0.Work.e5.Y),.d (.int .i64 a0.Work.e5.Z),.d (.list (List.map encTableLength a0.Lengths))]],[]⟩) (fun _=>rfl) ?_ ?_) h
 refine .block (.loopR 15 (.sR fun e h=>?_))
 simp only [seval,EMK]
 refine mU e (.seqK (.condT rfl (.skip (Mir.toK (.seqK (.block (.sR fun e h=>?_))))))) h
 simp only [seval,EMK]
 refine mU e (.seqK (.bind fun y1 h2=>.region fun e h=>?_)) h
 simp only [seval,EMK,und_88,sz_23,ag_23]
 refine SpecS.by (tb_far_spec h2) (by simp only [seval,FMK]) ?_
 simp only [seval,EMK]
 refine mU e (.cond rfl (fun h3=>?_) (fun h3=>?_)) h
 refine .sR fun e h=>?_
 simp only [seval,EMK]
 refine mU e (.ret fun e h=>?_) h
 cases h
 simp only [seval,FMK,Tryz.results63]
 refine .skip (Mir.toB (Mir.toK (.region fun e h=>?_)))
 simp only [seval,EMK,(nr rfl : IntKind.i64.wrap 1 = 1)]
 refine Mir.useN (e := e) ?_ h
 refine .sR fun e h=>?_
 simp only [seval,EMK]
 refine mU e (.seqK (.condT rfl (.skip (Mir.toK (.seqK (.block (.sR fun e h=>?_))))))) h
 simp only [seval,EMK]
 refine mU e (.seqK (.bind fun y2 h4=>.region fun e h=>?_)) h
 simp only [seval,EMK,und_88,sz_23,ag_23]
 refine SpecS.by (tb_far_spec h4) (by simp only [seval,FMK]) ?_
 simp only [seval,EMK]
 refine mU e (.cond rfl (fun h5=>?_) (fun h5=>?_)) h
 refine .sR fun e h=>?_
 simp only [seval,EMK]
 refine mU e (.ret fun e h=>?_) h
 cases h
 simp only [seval,FMK,Tryz.results63]
 refine .skip (Mir.toB (Mir.toK (.region fun e h=>?_)))
 simp only [seval,EMK,(nr rfl : IntKind.i64.wrap 2 = 2)]
 refine Mir.useN (e := e) ?_ h
 refine .sR fun e h=>?_
 simp only [seval,EMK]
 refine mU e (.seqK (.condT rfl (.skip (Mir.toK (.seqK (.block (.sR fun e h=>?_))))))) h
 simp only [seval,EMK]
 refine mU e (.seqK (.bind fun y3 h6=>.region fun e h=>?_)) h
 simp only [seval,EMK,und_88,sz_23,ag_23]
 refine SpecS.by (tb_far_spec h6) (by simp only [seval,FMK]) ?_
 simp only [seval,EMK]
 refine mU e (.cond rfl (fun h7=>?_) (fun h7=>?_)) h
 refine .sR fun e h=>?_
 simp only [seval,EMK]
 refine mU e (.ret fun e h=>?_) h
 cases h
 simp only [seval,FMK,Tryz.results63]
 refine .skip (Mir.toB (Mir.toK (.region fun e h=>?_)))
 simp only [seval,EMK,(nr rfl : IntKind.i64.wrap 3 = 3)]
 refine Mir.useN (e := e) ?_ h
 refine .sR fun e h=>?_
 simp only [seval,EMK]
 refine mU e (.seqK (.condT rfl (.skip (Mir.toK (.seqK (.block (.sR fun e h=>?_))))))) h
 simp only [seval,EMK]
 refine mU e (.seqK (.bind fun y4 h8=>.region fun e h=>?_)) h
 simp only [seval,EMK,und_88,sz_23,ag_23]
 refine SpecS.by (tb_far_spec h8) (by simp only [seval,FMK]) ?_
 simp only [seval,EMK]
 refine mU e (.cond rfl (fun h9=>?_) (fun h9=>?_)) h
 refine .sR fun e h=>?_
 simp only [seval,EMK]
 refine mU e (.ret fun e h=>?_) h
 cases h
 simp only [seval,FMK,Tryz.results63]
 refine .skip (Mir.toB (Mir.toK (.region fun e h=>?_)))
 simp only [seval,EMK,(nr rfl : IntKind.i64.wrap 4 = 4)]
 refine Mir.useN (e := e) ?_ h
 refine .sR fun e h=>?_
 simp only [seval,EMK]
 refine mU e (.seqK (.condT rfl (.skip (Mir.toK (.seqK (.block (.sR fun e h=>?_))))))) h
 simp only [seval,EMK]
 refine mU e (.seqK (.bind fun y5 h10=>.region fun e h=>?_)) h
 simp only [seval,EMK,und_88,sz_23,ag_23]
 refine SpecS.by (tb_far_spec h10) (by simp only [seval,FMK]) ?_
 simp only [seval,EMK]
 refine mU e (.cond rfl (fun h11=>?_) (fun h11=>?_)) h
 refine .sR fun e h=>?_
 simp only [seval,EMK]
 refine mU e (.ret fun e h=>?_) h
 cases h
 simp only [seval,FMK,Tryz.results63]
 refine .skip (Mir.toB (Mir.toK (.region fun e h=>?_)))
 simp only [seval,EMK,(nr rfl : IntKind.i64.wrap 5 = 5)]
 refine Mir.useN (e := e) ?_ h
 refine .sR fun e h=>?_
 simp only [seval,EMK]
 refine mU e (.seqK (.condT rfl (.skip (Mir.toK (.seqK (.block (.sR fun e h=>?_))))))) h
 simp only [seval,EMK]
 refine mU e (.seqK (.bind fun y6 h12=>.region fun e h=>?_)) h
 simp only [seval,EMK,und_88,sz_23,ag_23]
 refine SpecS.by (tb_far_spec h12) (by simp only [seval,FMK]) ?_
 simp only [seval,EMK]
 refine mU e (.cond rfl (fun h13=>?_) (fun h13=>?_)) h
 refine .sR fun e h=>?_
 simp only [seval,EMK]
 refine mU e (.ret fun e h=>?_) h
 cases h
 simp only [seval,FMK,Tryz.results63]
 refine .skip (Mir.toB (Mir.toK (.region fun e h=>?_)))
 simp only [seval,EMK,(nr rfl : IntKind.i64.wrap 6 = 6)]
 refine Mir.useN (e := e) ?_ h
 refine .sR fun e h=>?_
 simp only [seval,EMK]
 refine mU e (.seqK (.condF rfl (.exit fun e h=>?_))) h
 cases h
 simp only [seval,FMK,Tryz.results63]
 intro v1
 refine Mir.toK (.sR fun e h=>?_)
 simp only [seval,EMK]
 refine mU e (.ret fun e h=>?_) h
 cases h
 simp only [seval,FMK,Tryz.results63]
 simp only [seval,EMK]
 refine mU e (.ret fun e h=>?_) h
 cases h
 simp only [seval,FMK,Tryz.results37]
 simp only [seval,EMK]
 refine mU e (.cond rfl (fun h14=>?_) (fun h14=>?_)) h
 refine .sR fun e h=>?_
 simp only [seval,EMK]
 refine mU e (.ret fun e h=>?_) h
 cases h
 simp only [seval,FMK,Tryz.results17]
 refine .skip (Mir.toK (.seqK (.sR fun e h=>?_)))
 simp only [seval,EMK,fld_34_1,sz_32,ag_32,und_32]
 refine mU e (Mir.join (fun v6 : Unit=>(us 36)) (fun v6=>⟨[[.d (.int .i64 a0.Work.e0.X),.d (.int .i64 a0.Work.e0.Y),.d (.int .i64 a0.Work.e0.Z),.d (.int .i64 a0.Work.e1.X),.d (.int .i64 a0.Work.e1.Y),.d (.int .i64 a0.Work.e1.Z),.d (.int .i64 a0.Work.e2.X),.d (.int .i64 a0.Work.e2.Y),.d (.int .i64 a0.Work.e2.Z),.d (.int .i64 a0.Work.e3.X),.d (.int .i64 a0.Work.e3.Y),.d (.int .i64 a0.Work.e3.Z),.d (.int .i64 a0.Work.e4.X),.d (.int .i64 a0.Work.e4.Y),.d (.int .i64 a0.Work.e4.Z),.d (.int .i64 a0.Work.e5.X),.d (.int .i64 a0.Work.e5.Y),.d (.int .i64 a0.Work.e5.Z),.d (.list (List.map encTableLength a0.Lengths))]],[]⟩) (fun _=>rfl) ?_ ?_) h
 refine .block (.guard fun q1=>Mir.range (fun (i1 : Nat) (v4 : Unit)=>([U,.ptr 0 0,U,U,U,U,U,U,U,.d (.list (List.map encTableLength a0.Lengths)),.d (.int .i64 (a0.Lengths.length : Int)),.d (.int .i64 (i1 : Int))] ++ us 24)) (fun i1 v4=>⟨[[.d (.int .i64 a0.Work.e0.X),.d (.int .i64 a0.Work.e0.Y),.d (.int .i64 a0.Work.e0.Z),.d (.int .i64 a0.Work.e1.X),.d (.int .i64 a0.Work.e1.Y),.d (.int .i64 a0.Work.e1.Z),.d (.int .i64 a0.Work.e2.X),.d (.int .i64 a0.Work.e2.Y),.d (.int .i64 a0.Work.e2.Z),.d (.int .i64 a0.Work.e3.X),.d (.int .i64 a0.Work.e3.Y),.d (.int .i64 a0.Work.e3.Z),.d (.int .i64 a0.Work.e4.X),.d (.int .i64 a0.Work.e4.Y),.d (.int .i64 a0.Work.e4.Z),.d (.int .i64 a0.Work.e5.X),.d (.int .i64 a0.Work.e5.Y),.d (.int .i64 a0.Work.e5.Z),.d (.list (List.map encTableLength a0.Lengths))]],[]⟩) q1 (fun _ _=>rfl) (by simp only [seval,FMK,zNI]) (by simp only [seval,FMK,zNI]) ?_ ?_)
 intro i1 e1 v4 q2
 refine .sR fun e h=>?_
 simp only [seval,EMK,q2]
 refine mU e (.seqK (.condT rfl (.skip (Mir.toK (.seqK (.block (.sR fun e h=>?_))))))) h
 simp only [seval,EMK,und_32,sz_65,q2,Int.toNat_natCast,ag_65,zero_65]
 refine mU e (.seqK (Mir.joinO (fun v5 : Bool=>[U,.ptr 0 0,U,U,U,U,U,U,U,.d (.list (List.map encTableLength a0.Lengths)),.d (.int .i64 (a0.Lengths.length : Int)),.d (.int .i64 (i1 : Int)),U,U,U,U,U,U,U,U,U,U,U,U,U,U,U,U,U,U,U,U,U,U,.d (.bool v5),U]) (fun v5=>⟨[[.d (.int .i64 a0.Work.e0.X),.d (.int .i64 a0.Work.e0.Y),.d (.int .i64 a0.Work.e0.Z),.d (.int .i64 a0.Work.e1.X),.d (.int .i64 a0.Work.e1.Y),.d (.int .i64 a0.Work.e1.Z),.d (.int .i64 a0.Work.e2.X),.d (.int .i64 a0.Work.e2.Y),.d (.int .i64 a0.Work.e2.Z),.d (.int .i64 a0.Work.e3.X),.d (.int .i64 a0.Work.e3.Y),.d (.int .i64 a0.Work.e3.Z),.d (.int .i64 a0.Work.e4.X),.d (.int .i64 a0.Work.e4.Y),.d (.int .i64 a0.Work.e4.Z),.d (.int .i64 a0.Work.e5.X),.d (.int .i64 a0.Work.e5.Y),.d (.int .i64 a0.Work.e5.Z),.d (.list (List.map encTableLength a0.Lengths))],[.d (.int .i64 e1.Number),.d (.int .i64 e1.Length)]],[]⟩) (fun _=>rfl) ?_ ?_)) h
 refine .bind fun y7 h15=>.ite (fun h16=>?_) (fun h16=>?_)
 refine .ite (fun h17=>?_) (fun h17=>?_)
 refine .bind fun e2 q3=>?_
 replace q3 := gt_ok q3
 refine .regionD [] (by kernel_rfl) fun e h=>?_
 simp only [seval,EMK,SB,ag_65,sz_65,h16,h17]
 refine Spec.by (tb_entry_spec h15) (by simp only [seval,FMK,h16,h17]) ?_
 simp only [seval,EMK,SB,fld_34_1,sz_32,ag_32,und_32,sz_65,q3,fld_65_0,sz_2,ag_2,h16,h17]
 cases h
 simp only [seval,FMK,h16,h17]
 refine .regionD [] (by kernel_rfl) fun e h=>?_
 simp only [seval,EMK,SB,ag_65,sz_65,h16,h17]
 refine Spec.by (tb_entry_spec h15) (by simp only [seval,FMK,h16,h17]) ?_
 simp only [seval,EMK,SB,h16,h17]
 cases h
 simp only [seval,FMK,h16,h17]
 refine .regionD [] (by kernel_rfl) fun e h=>?_
 simp only [seval,EMK,SB,ag_65,sz_65,h16]
 refine Spec.by (tb_entry_spec h15) (by simp only [seval,FMK,h16]) ?_
 simp only [seval,EMK,SB,h16]
 cases h
 simp only [seval,FMK,h16]
 intro v5
 refine Mir.toK (.cond rfl (fun h18=>?_) (fun h18=>?_))
 refine .sR fun e h=>?_
 simp only [seval,EMK]
 refine mU e (.ret fun e h=>?_) h
 cases h
 simp only [seval,FMK,Tryz.results17]
 refine .skip (Mir.toB (Mir.toK (.region fun e h=>?_)))
 simp only [seval,EMK]
 cases h
 simp only [seval,FMK,Tryz.results17,q2]
 intro v4 q4
 refine .sR fun e h=>?_
 simp only [seval,EMK,q4]
 refine mU e (.seqK (.condF rfl (.exit fun e h=>?_))) h
 cases h
 simp only [seval,FMK,Tryz.results17]
 intro v6
 refine Mir.toK (.sR fun e h=>?_)
 simp only [seval,EMK]
 refine mU e (.ret fun e h=>?_) h
 cases h
 simp only [seval,FMK,Tryz.results17]
def tb_slot (a0 : Int) : Option (Int × Int) := if (((Int.tmod a0 1000) != 0) || ((decide (a0 < 54000)) || (decide (a0 > 59000)))) = true then some (0,4) else some (IntKind.i64.wrap ((IntKind.i64.wrap (Int.tdiv a0 1000)) - 54),0)
theorem tb_slot_spec {a0 : Int} {y : Int × Int} (h : tb_slot a0 = some y) : Spec gP 29 [.d (.int .i64 a0)] (.tuple [.d (.int .i64 y.1),.d (.int .i64 y.2)]) := by
 refine spec_mir Tryz.func29 rfl (by kernel_rfl) (by kernel_rfl) (fun y : Int × Int=>.tuple [.d (.int .i64 y.1),.d (.int .i64 y.2)]) ?_ h
 unfold tb_slot
 simp only [List.replicate,List.length,nS,nA,Tryz.ntmps29,SV]
 refine .sR fun e h=>?_
 simp only [seval,EMK]
 refine mU e (.seqK (.seqK (.joinV [.d (.int .i64 a0),U,U,U,U,U,U,U,U,U,U,U,U,U,.d (.bool (((Int.tmod a0 1000) != 0) || ((decide (a0 < 54000)) || (decide (a0 > 59000))))),U,U,U] ⟨[],[]⟩ rfl ?_ ?_))) h
 refine SWs.region ?_
 rcases Bool.eq_false_or_eq_true ((Int.tmod a0 1000) != 0) with hb1 | hb1
 simp only [seval,EMK,SL,PB,hb1]
 rcases Bool.eq_false_or_eq_true (decide (a0 < 54000)) with hb2 | hb2
 simp only [seval,EMK,SL,PB,hb1,hb2]
 simp only [seval,EMK,SL,PB,hb1,hb2]
 refine Mir.toK (.cond rfl (fun hb4=>?_) (fun hb4=>?_))
 refine .sR fun e h=>?_
 simp only [seval,EMK]
 refine mU e (.ret fun e h=>?_) h
 cases h
 simp only [seval,FMK,Tryz.results29]
 refine .skip (Mir.toK (.sR fun e h=>?_))
 simp only [seval,EMK]
 refine mU e (.ret fun e h=>?_) h
 cases h
 simp only [seval,FMK,Tryz.results29]
def slices_Clone_table_Length_table_Length (a0 : List TableLength) : Option (List TableLength) := guardO (okLen a0.length) (some a0)
theorem slices_Clone_table_Length_table_Length_n {c0 : Nat} {y : List TableLength} (h : (some []) = some y) : Spec gP 56 [.d (.other (.slice none 0 c0))] (.d (.list (List.map encTableLength y))) := by
 refine spec_mir Tryz.func56 rfl (by kernel_rfl) (by kernel_rfl) (fun y : List TableLength=>.d (.list (List.map encTableLength y))) ?_ h
 simp only [List.replicate,List.length,nS,nA,Tryz.ntmps56,SV]
 refine .sR fun e h=>?_
 simp only [seval,EMK]
 refine mU e (.seqK (.sR fun e h=>?_)) h
 simp only [seval,EMK,und_32]
 refine mU e (.condT rfl (.sR fun e h=>?_)) h
 simp only [seval,EMK]
 refine mU e (.ret fun e h=>?_) h
 cases h
 simp only [seval,FMK,Tryz.results56]
theorem slices_Clone_table_Length_table_Length_o {p0 : Addr} {c0 : Nat} {y : List TableLength} (h : (some []) = some y) : Spec gP 56 [.d (.other (.slice (some p0) 0 c0))] (.d (.list (List.map encTableLength y))) := by
 refine spec_mir Tryz.func56 rfl (by kernel_rfl) (by kernel_rfl) (fun y : List TableLength=>.d (.list (List.map encTableLength y))) ?_ h
 simp only [List.replicate,List.length,nS,nA,Tryz.ntmps56,SV]
 refine .sR fun e h=>?_
 simp only [seval,EMK]
 refine mU e (.seqK (.sR fun e h=>?_)) h
 simp only [seval,EMK,und_32]
 refine mU e (.condF rfl (.skip (Mir.toK (.sR fun e h=>?_)))) h
 simp only [seval,EMK,und_32,sz_65,zero_65,(oL 0),app_32,al_TableLength,List.all_cons,List.all_nil]
 refine mU e (.ret fun e h=>?_) h
 cases h
 simp only [seval,FMK,Tryz.results56]
theorem slices_Clone_table_Length_table_Length_c {x0 : TableLength} {l0 : List TableLength} {y : List TableLength} (h : (guardO (okLen ((x0 :: l0).length)) (   some (x0 :: l0))) = some y) : Spec gP 56 [.d (.list (List.map encTableLength (x0 :: l0)))] (.d (.list (List.map encTableLength y))) := by
 refine spec_mir Tryz.func56 rfl (by kernel_rfl) (by kernel_rfl) (fun y : List TableLength=>.d (.list (List.map encTableLength y))) ?_ h
 simp only [List.replicate,List.length,nS,nA,Tryz.ntmps56,SV]
 refine .sR fun e h=>?_
 simp only [seval,EMK]
 refine mU e (.seqK (.sR fun e h=>?_)) h
 simp only [seval,EMK,und_32]
 refine mU e (.condF rfl (.skip (Mir.toK (.seqK (.guard fun q1=>.region fun e h=>?_))))) h
 simp only [seval,EMK,und_32,sz_65,zero_65,(oL 0),app_32,al_TableLength,q1]
 refine mU e (.ret fun e h=>?_) h
 cases h
 simp only [seval,FMK,Tryz.results56]
theorem slices_Clone_table_Length_table_Length_spec {a0 : List TableLength} {y : List TableLength} (h : slices_Clone_table_Length_table_Length a0 = some y) : Spec gP 56 [.d (.list (List.map encTableLength a0))] (.d (.list (List.map encTableLength y))) := by
 obtain ⟨hl,h⟩ := guardO_some h
 cases h
 cases a0 with
 | nil =>
  refine Spec.nilcase fun A c=>?_
  cases A with
  | none=>exact slices_Clone_table_Length_table_Length_n rfl
  | some p=>exact slices_Clone_table_Length_table_Length_o rfl
 | cons x l=>exact slices_Clone_table_Length_table_Length_c (by simp only [guardO,hl])
theorem slices_Clone_table_Length_table_Length_Yn {c0 : Nat} {y : List TableLength} (h : (some []) = some y) : SpecY gP 56 [.d (.other (.slice none 0 c0))] 65 (List.map encTableLength y) := by
 refine specY_mir Tryz.func56 rfl (by kernel_rfl) (by kernel_rfl) (fun y : List TableLength=>List.map encTableLength y) (sc_map (fun _=>rfl) _) ?_ h
 simp only [List.replicate,List.length,nS,nA,Tryz.ntmps56,SV]
 refine .sR fun e h=>?_
 simp only [seval,EMK]
 refine mU e (.seqK (.sR fun e h=>?_)) h
 simp only [seval,EMK,und_32]
 refine mU e (.condT rfl (.sR fun e h=>?_)) h
 simp only [seval,EMK]
 refine mU e (.ret fun e h=>?_) h
 cases h
 simp only [seval,FMK,Tryz.results56,fy_r,fy_n,yr_o,yr_n]
theorem slices_Clone_table_Length_table_Length_Yo {p0 : Addr} {c0 : Nat} {y : List TableLength} (h : (some []) = some y) : SpecY gP 56 [.d (.other (.slice (some p0) 0 c0))] 65 (List.map encTableLength y) := by
 refine specY_mir Tryz.func56 rfl (by kernel_rfl) (by kernel_rfl) (fun y : List TableLength=>List.map encTableLength y) (sc_map (fun _=>rfl) _) ?_ h
 simp only [List.replicate,List.length,nS,nA,Tryz.ntmps56,SV]
 refine .sR fun e h=>?_
 simp only [seval,EMK]
 refine mU e (.seqK (.sR fun e h=>?_)) h
 simp only [seval,EMK,und_32]
 refine mU e (.condF rfl (.skip (Mir.toK (.seqK (.regionW fun e h=>regW.alt 0 rfl ?_))))) h
 simp only [seval,EMK,w_none,w_eq]
 refine alt_emptyOwn app_32 (regW.of ?_)
 simp only [seval,EMK,w_none,w_eq,und_32,sz_65,zero_65,(oL 0),app_32,al_TableLength]
 refine mU e (.ret fun e h=>?_) h
 cases h
 simp only [seval,FMK,Tryz.results56,fy_r,fy_n,yr_o,yr_n]
theorem slices_Clone_table_Length_table_Length_Yc {x0 : TableLength} {l0 : List TableLength} {y : List TableLength} (h : (guardO (okLen (0 + (x0 :: l0).length)) (   some ([] ++ (x0 :: l0)))) = some y) : SpecY gP 56 [.d (.list (List.map encTableLength (x0 :: l0)))] 65 (List.map encTableLength y) := by
 refine specY_mir Tryz.func56 rfl (by kernel_rfl) (by kernel_rfl) (fun y : List TableLength=>List.map encTableLength y) (sc_map (fun _=>rfl) _) ?_ h
 simp only [List.replicate,List.length,nS,nA,Tryz.ntmps56,SV]
 refine .sR fun e h=>?_
 simp only [seval,EMK]
 refine mU e (.seqK (.sR fun e h=>?_)) h
 simp only [seval,EMK,und_32]
 refine mU e (.condF rfl (.skip (Mir.toK (.seqK (.guard fun q1=>.regionW fun e h=>regW.alt 0 rfl ?_))))) h
 simp only [seval,EMK,w_none,w_eq]
 refine alt_emptyOwn app_32 (regW.of ?_)
 simp only [seval,EMK,w_none,w_eq,und_32,sz_65,zero_65,(oL 0),app_32,al_TableLength,q1]
 refine mU e (.ret fun e h=>?_) h
 cases h
 simp only [seval,FMK,Tryz.results56,fy_r,fy_n,yr_o,yr_n]
theorem slices_Clone_table_Length_table_Length_specY {a0 : List TableLength} {y : List TableLength} (h : slices_Clone_table_Length_table_Length a0 = some y) : SpecY gP 56 [.d (.list (List.map encTableLength a0))] 65 (List.map encTableLength y) := by
 obtain ⟨hl,h⟩ := guardO_some h
 cases h
 cases a0 with
 | nil =>
  refine SpecY.nilcase fun A c=>?_
  cases A with
  | none=>exact slices_Clone_table_Length_table_Length_Yn rfl
  | some p=>exact slices_Clone_table_Length_table_Length_Yo rfl
 | cons x l=>exact slices_Clone_table_Length_table_Length_Yc (by simp only [guardO,Nat.zero_add,List.nil_append,hl])
def tb_clone (a0 : TableTable) : Option TableTable := bindO (slices_Clone_table_Length_table_Length a0.Lengths) fun (y1 : (List TableLength))=>some (TableTable.mk a0.Work y1)
theorem tb_clone_spec {a0 : TableTable} {y : TableTable} (h : tb_clone a0 = some y) : Spec gP 31 [.agg [.d (.int .i64 a0.Work.e0.X),.d (.int .i64 a0.Work.e0.Y),.d (.int .i64 a0.Work.e0.Z),.d (.int .i64 a0.Work.e1.X),.d (.int .i64 a0.Work.e1.Y),.d (.int .i64 a0.Work.e1.Z),.d (.int .i64 a0.Work.e2.X),.d (.int .i64 a0.Work.e2.Y),.d (.int .i64 a0.Work.e2.Z),.d (.int .i64 a0.Work.e3.X),.d (.int .i64 a0.Work.e3.Y),.d (.int .i64 a0.Work.e3.Z),.d (.int .i64 a0.Work.e4.X),.d (.int .i64 a0.Work.e4.Y),.d (.int .i64 a0.Work.e4.Z),.d (.int .i64 a0.Work.e5.X),.d (.int .i64 a0.Work.e5.Y),.d (.int .i64 a0.Work.e5.Z),.d (.list (List.map encTableLength a0.Lengths))]] (.agg [.d (.int .i64 y.Work.e0.X),.d (.int .i64 y.Work.e0.Y),.d (.int .i64 y.Work.e0.Z),.d (.int .i64 y.Work.e1.X),.d (.int .i64 y.Work.e1.Y),.d (.int .i64 y.Work.e1.Z),.d (.int .i64 y.Work.e2.X),.d (.int .i64 y.Work.e2.Y),.d (.int .i64 y.Work.e2.Z),.d (.int .i64 y.Work.e3.X),.d (.int .i64 y.Work.e3.Y),.d (.int .i64 y.Work.e3.Z),.d (.int .i64 y.Work.e4.X),.d (.int .i64 y.Work.e4.Y),.d (.int .i64 y.Work.e4.Z),.d (.int .i64 y.Work.e5.X),.d (.int .i64 y.Work.e5.Y),.d (.int .i64 y.Work.e5.Z),.d (.list (List.map encTableLength y.Lengths))]) := by
 refine spec_mir Tryz.func31 rfl (by kernel_rfl) (by kernel_rfl) (fun y : TableTable=>.agg [.d (.int .i64 y.Work.e0.X),.d (.int .i64 y.Work.e0.Y),.d (.int .i64 y.Work.e0.Z),.d (.int .i64 y.Work.e1.X),.d (.int .i64 y.Work.e1.Y),.d (.int .i64 y.Work.e1.Z),.d (.int .i64 y.Work.e2.X),.d (.int .i64 y.Work.e2.Y),.d (.int .i64 y.Work.e2.Z),.d (.int .i64 y.Work.e3.X),.d (.int .i64 y.Work.e3.Y),.d (.int .i64 y.Work.e3.Z),.d (.int .i64 y.Work.e4.X),.d (.int .i64 y.Work.e4.Y),.d (.int .i64 y.Work.e4.Z),.d (.int .i64 y.Work.e5.X),.d (.int .i64 y.Work.e5.Y),.d (.int .i64 y.Work.e5.Z),.d (.list (List.map encTableLength y.Lengths))]) ?_ h
 unfold tb_clone
 simp only [List.replicate,List.length,nS,nA,Tryz.ntmps31,SV]
 refine .sR fun e h=>?_
 simp only [seval,EMK,zero_34]
 refine mU e (.seqK (.bind fun y1 hy1=>.region fun e h=>?_)) h
 simp only [seval,EMK,fld_34_1,sz_32,ag_32]
 refine SpecS.by (slices_Clone_table_Length_table_Length_spec hy1) (by simp only [seval,FMK]) ?_
 simp only [seval,EMK,fld_34_1,sz_32]
 refine mU e (.sR fun e h=>?_) h
 simp only [seval,EMK,ag_34,sz_34]
 refine mU e (.ret fun e h=>?_) h
 cases h
 simp only [seval,FMK,Tryz.results31,ag_34,sz_34]
def tb_SetWork (a0 : TableTable) (a1 : Int) (a2 : ApiPos) : Option (TableTable × Int) := bindO (tb_Valid (TableTable.mk a0.Work a0.Lengths)) fun (y1 : Int)=>if (y1 != 0) = true then some (TableTable.mk (Arr6ApiPos.mk (ApiPos.mk 0 0 0) (ApiPos.mk 0 0 0) (ApiPos.mk 0 0 0) (ApiPos.mk 0 0 0) (ApiPos.mk 0 0 0) (ApiPos.mk 0 0 0)) [],y1) else bindO (tb_slot a1) fun (y2 : Int × Int)=>if (y2.2 != 0) = true then some (TableTable.mk (Arr6ApiPos.mk (ApiPos.mk 0 0 0) (ApiPos.mk 0 0 0) (ApiPos.mk 0 0 0) (ApiPos.mk 0 0 0) (ApiPos.mk 0 0 0) (ApiPos.mk 0 0 0)) [],y2.2) else bindO (tb_far a2) fun (y3 : Bool)=>if y3 = true then some (TableTable.mk (Arr6ApiPos.mk (ApiPos.mk 0 0 0) (ApiPos.mk 0 0 0) (ApiPos.mk 0 0 0) (ApiPos.mk 0 0 0) (ApiPos.mk 0 0 0) (ApiPos.mk 0 0 0)) [],11) else bindO (tb_clone a0) fun (y4 : TableTable)=>bindO (guardO (decide (0 ≤ y2.1 ∧ y2.1 < 6)) ( if (y2.1 == 0) = true then some (TableTable.mk (Arr6ApiPos.mk a2 y4.Work.e1 y4.Work.e2 y4.Work.e3 y4.Work.e4 y4.Work.e5) y4.Lengths) else if (y2.1 == 1) = true then some (TableTable.mk (Arr6ApiPos.mk y4.Work.e0 a2 y4.Work.e2 y4.Work.e3 y4.Work.e4 y4.Work.e5) y4.Lengths) else if (y2.1 == 2) = true then some (TableTable.mk (Arr6ApiPos.mk y4.Work.e0 y4.Work.e1 a2 y4.Work.e3 y4.Work.e4 y4.Work.e5) y4.Lengths) else if (y2.1 == 3) = true then some (TableTable.mk (Arr6ApiPos.mk y4.Work.e0 y4.Work.e1 y4.Work.e2 a2 y4.Work.e4 y4.Work.e5) y4.Lengths) else if (y2.1 == 4) = true then some (TableTable.mk (Arr6ApiPos.mk y4.Work.e0 y4.Work.e1 y4.Work.e2 y4.Work.e3 a2 y4.Work.e5) y4.Lengths) else some (TableTable.mk (Arr6ApiPos.mk y4.Work.e0 y4.Work.e1 y4.Work.e2 y4.Work.e3 y4.Work.e4 a2) y4.Lengths))) fun (v1 : TableTable)=>some (v1,0)
theorem tb_SetWork_spec {a0 : TableTable} {a1 : Int} {a2 : ApiPos} {y : TableTable × Int} (h : tb_SetWork a0 a1 a2 = some y) : Spec gP 14 [.agg [.d (.int .i64 a0.Work.e0.X),.d (.int .i64 a0.Work.e0.Y),.d (.int .i64 a0.Work.e0.Z),.d (.int .i64 a0.Work.e1.X),.d (.int .i64 a0.Work.e1.Y),.d (.int .i64 a0.Work.e1.Z),.d (.int .i64 a0.Work.e2.X),.d (.int .i64 a0.Work.e2.Y),.d (.int .i64 a0.Work.e2.Z),.d (.int .i64 a0.Work.e3.X),.d (.int .i64 a0.Work.e3.Y),.d (.int .i64 a0.Work.e3.Z),.d (.int .i64 a0.Work.e4.X),.d (.int .i64 a0.Work.e4.Y),.d (.int .i64 a0.Work.e4.Z),.d (.int .i64 a0.Work.e5.X),.d (.int .i64 a0.Work.e5.Y),.d (.int .i64 a0.Work.e5.Z),.d (.list (List.map encTableLength a0.Lengths))],.d (.int .i64 a1),.agg [.d (.int .i64 a2.X),.d (.int .i64 a2.Y),.d (.int .i64 a2.Z)]] (.tuple [.agg [.d (.int .i64 y.1.Work.e0.X),.d (.int .i64 y.1.Work.e0.Y),.d (.int .i64 y.1.Work.e0.Z),.d (.int .i64 y.1.Work.e1.X),.d (.int .i64 y.1.Work.e1.Y),.d (.int .i64 y.1.Work.e1.Z),.d (.int .i64 y.1.Work.e2.X),.d (.int .i64 y.1.Work.e2.Y),.d (.int .i64 y.1.Work.e2.Z),.d (.int .i64 y.1.Work.e3.X),.d (.int .i64 y.1.Work.e3.Y),.d (.int .i64 y.1.Work.e3.Z),.d (.int .i64 y.1.Work.e4.X),.d (.int .i64 y.1.Work.e4.Y),.d (.int .i64 y.1.Work.e4.Z),.d (.int .i64 y.1.Work.e5.X),.d (.int .i64 y.1.Work.e5.Y),.d (.int .i64 y.1.Work.e5.Z),.d (.list (List.map encTableLength y.1.Lengths))],.d (.int .i64 y.2)]) := by
 refine spec_mir Tryz.func14 rfl (by kernel_rfl) (by kernel_rfl) (fun y : TableTable × Int=>.tuple [.agg [.d (.int .i64 y.1.Work.e0.X),.d (.int .i64 y.1.Work.e0.Y),.d (.int .i64 y.1.Work.e0.Z),.d (.int .i64 y.1.Work.e1.X),.d (.int .i64 y.1.Work.e1.Y),.d (.int .i64 y.1.Work.e1.Z),.d (.int .i64 y.1.Work.e2.X),.d (.int .i64 y.1.Work.e2.Y),.d (.int .i64 y.1.Work.e2.Z),.d (.int .i64 y.1.Work.e3.X),.d (.int .i64 y.1.Work.e3.Y),.d (.int .i64 y.1.Work.e3.Z),.d (.int .i64 y.1.Work.e4.X),.d (.int .i64 y.1.Work.e4.Y),.d (.int .i64 y.1.Work.e4.Z),.d (.int .i64 y.1.Work.e5.X),.d (.int .i64 y.1.Work.e5.Y),.d (.int .i64 y.1.Work.e5.Z),.d (.list (List.map encTableLength y.1.Lengths))],.d (.int .i64 y.2)]) ?_ h
 unfold tb_SetWork
 simp only [List.replicate,List.length,nS,nA,Tryz.ntmps14,SV]
 refine .sR fun e h=>?_
 simp only [seval,EMK,zero_34]
 refine mU e (.seqK (.seqK (.bind fun y1 hy1=>.region fun e h=>?_))) h
 simp only [seval,EMK,ag_34,sz_34]
 refine SpecS.by (tb_Valid_spec hy1) (by simp only [seval,FMK]) ?_
 simp only [seval,EMK]
 refine mU e (.sR fun e h=>?_) h
 simp only [seval,EMK]
 refine mU e (.cond rfl (fun hb3=>?_) (fun hb3=>?_)) h
 refine .sR fun e h=>?_
 simp only [seval,EMK,zero_34,pl_34,sz_34]
 refine mU e (.ret fun e h=>?_) h
 cases h
 simp only [seval,FMK,Tryz.results14,ag_34,sz_34]
 refine .skip (Mir.toK (.seqK (.bind fun y2 hy4=>.region fun e h=>?_)))
 simp only [seval,EMK]
 refine SpecS.by (tb_slot_spec hy4) (by simp only [seval,FMK]) ?_
 simp only [seval,EMK]
 refine mU e (.seqK (.sR fun e h=>?_)) h
 simp only [seval,EMK]
 refine mU e (.cond rfl (fun hb6=>?_) (fun hb6=>?_)) h
 refine .sR fun e h=>?_
 simp only [seval,EMK,zero_34,pl_34,sz_34]
 refine mU e (.ret fun e h=>?_) h
 cases h
 simp only [seval,FMK,Tryz.results14,ag_34,sz_34]
 refine .skip (Mir.toK (.seqK (.seqK (.bind fun y3 hy7=>.region fun e h=>?_))))
 simp only [seval,EMK,ag_23,sz_23]
 refine SpecS.by (tb_far_spec hy7) (by simp only [seval,FMK]) ?_
 simp only [seval,EMK]
 refine mU e (.cond rfl (fun hb9=>?_) (fun hb9=>?_)) h
 refine .sR fun e h=>?_
 simp only [seval,EMK,zero_34,pl_34,sz_34]
 refine mU e (.ret fun e h=>?_) h
 cases h
 simp only [seval,FMK,Tryz.results14,ag_34,sz_34]
 refine .skip (Mir.toK (.seqK (.bind fun y4 hy10=>.region fun e h=>?_)))
 simp only [seval,EMK,ag_34,sz_34]
 refine SpecS.by (tb_clone_spec hy10) (by simp only [seval,FMK]) ?_
 simp only [seval,EMK,zero_34,sz_34]
 refine mU e (.seqK (Mir.joinO (fun v1 : TableTable=>([U,U,U,U,U,U,.ptr 2 0,U,U,U,U,.ptr 3 0] ++ us 25)) (fun v1=>⟨[[.d (.int .i64 a0.Work.e0.X),.d (.int .i64 a0.Work.e0.Y),.d (.int .i64 a0.Work.e0.Z),.d (.int .i64 a0.Work.e1.X),.d (.int .i64 a0.Work.e1.Y),.d (.int .i64 a0.Work.e1.Z),.d (.int .i64 a0.Work.e2.X),.d (.int .i64 a0.Work.e2.Y),.d (.int .i64 a0.Work.e2.Z),.d (.int .i64 a0.Work.e3.X),.d (.int .i64 a0.Work.e3.Y),.d (.int .i64 a0.Work.e3.Z),.d (.int .i64 a0.Work.e4.X),.d (.int .i64 a0.Work.e4.Y),.d (.int .i64 a0.Work.e4.Z),.d (.int .i64 a0.Work.e5.X),.d (.int .i64 a0.Work.e5.Y),.d (.int .i64 a0.Work.e5.Z),.d (.list (List.map encTableLength a0.Lengths))],[.d (.int .i64 a2.X),.d (.int .i64 a2.Y),.d (.int .i64 a2.Z)],[.d (.int .i64 0),.d (.int .i64 0),.d (.int .i64 0),.d (.int .i64 0),.d (.int .i64 0),.d (.int .i64 0),.d (.int .i64 0),.d (.int .i64 0),.d (.int .i64 0),.d (.int .i64 0),.d (.int .i64 0),.d (.int .i64 0),.d (.int .i64 0),.d (.int .i64 0),.d (.int .i64 0),.d (.int .i64 0),.d (.int .i64 0),.d (.int .i64 0),.nil],[.d (.int .i64 v1.Work.e0.X),.d (.int .i64 v1.Work.e0.Y),.d (.int .i64 v1.Work.e0.Z),.d (.int .i64 v1.Work.e1.X),.d (.int .i64 v1.Work.e1.Y),.d (.int .i64 v1.Work.e1.Z),.d (.int .i64 v1.Work.e2.X),.d (.int .i64 v1.Work.e2.Y),.d (.int .i64 v1.Work.e2.Z),.d (.int .i64 v1.Work.e3.X),.d (.int .i64 v1.Work.e3.Y),.d (.int .i64 v1.Work.e3.Z),.d (.int .i64 v1.Work.e4.X),.d (.int .i64 v1.Work.e4.Y),.d (.int .i64 v1.Work.e4.Z),.d (.int .i64 v1.Work.e5.X),.d (.int .i64 v1.Work.e5.Y),.d (.int .i64 v1.Work.e5.Z),.d (.list (List.map encTableLength v1.Lengths))]],[]⟩) (fun _=>rfl) ?_ ?_)) h
 refine .guard fun qi11=>.ite (fun hb12=>?_) (fun hb12=>?_)
 refine .region fun e h=>?_
 simp only [seval,EMK,ag_23,sz_23,fld_34_0,sz_24,und_24,(eq_of_beq hb12),hb12]
 cases h
 simp only [seval,FMK,hb12]
 refine .ite (fun hb13=>?_) (fun hb13=>?_)
 refine .region fun e h=>?_
 simp only [seval,EMK,ag_23,sz_23,fld_34_0,sz_24,und_24,(eq_of_beq hb13),hb12,hb13]
 cases h
 simp only [seval,FMK,hb12,hb13]
 refine .ite (fun hb14=>?_) (fun hb14=>?_)
 refine .region fun e h=>?_
 simp only [seval,EMK,ag_23,sz_23,fld_34_0,sz_24,und_24,(eq_of_beq hb14),hb12,hb13,hb14]
 cases h
 simp only [seval,FMK,hb12,hb13,hb14]
 refine .ite (fun hb15=>?_) (fun hb15=>?_)
 refine .region fun e h=>?_
 simp only [seval,EMK,ag_23,sz_23,fld_34_0,sz_24,und_24,(eq_of_beq hb15),hb12,hb13,hb14,hb15]
 cases h
 simp only [seval,FMK,hb12,hb13,hb14,hb15]
 refine .ite (fun hb16=>?_) (fun hb16=>?_)
 refine .region fun e h=>?_
 simp only [seval,EMK,ag_23,sz_23,fld_34_0,sz_24,und_24,(eq_of_beq hb16),hb12,hb13,hb14,hb15,hb16]
 cases h
 simp only [seval,FMK,hb12,hb13,hb14,hb15,hb16]
 have hz17 : y2.1 = 5 := by have h0 := of_decide_eq_true qi11; have h1 := ne_of_beq_false hb12; have h2 := ne_of_beq_false hb13; have h3 := ne_of_beq_false hb14; have h4 := ne_of_beq_false hb15; have h5 := ne_of_beq_false hb16; omega
 refine .region fun e h=>?_
 simp only [seval,EMK,ag_23,sz_23,fld_34_0,sz_24,und_24,hz17,hb12,hb13,hb14,hb15,hb16]
 cases h
 simp only [seval,FMK,hb12,hb13,hb14,hb15,hb16]
 intro v1
 refine Mir.toK (.sR fun e h=>?_)
 simp only [seval,EMK,ag_34,sz_34]
 refine mU e (.ret fun e h=>?_) h
 cases h
 simp only [seval,FMK,Tryz.results14,ag_34,sz_34]
def cmp_isNaN_int64 (a0 : Int) : Option Bool := some (a0 != a0)
theorem cmp_isNaN_int64_spec {a0 : Int} {y : Bool} (h : cmp_isNaN_int64 a0 = some y) : Spec gP 88 [.d (.int .i64 a0)] (.d (.bool y)) := by
 refine spec_mir Tryz.func88 rfl (by kernel_rfl) (by kernel_rfl) (fun y : Bool=>.d (.bool y)) ?_ h
 unfold cmp_isNaN_int64
 simp only [List.replicate,List.length,nS,nA,Tryz.ntmps88,SV]
 refine .sR fun e h=>?_
 simp only [seval,EMK]
 refine mU e (.sR fun e h=>?_) h
 simp only [seval,EMK]
 refine mU e (.ret fun e h=>?_) h
 cases h
 simp only [seval,FMK,Tryz.results88]
def cmp_Compare_int64 (a0 : Int) (a1 : Int) : Option Int := bindO (cmp_isNaN_int64 a0) fun (y1 : Bool)=>bindO (cmp_isNaN_int64 a1) fun (y2 : Bool)=>if y1 = true then if y2 = true then some 0 else some (-1) else if y2 = true then some 1 else if (decide (a0 < a1)) = true then some (-1) else if (decide (a0 > a1)) = true then some 1 else some 0
theorem cmp_Compare_int64_spec {a0 : Int} {a1 : Int} {y : Int} (h : cmp_Compare_int64 a0 a1 = some y) : Spec gP 59 [.d (.int .i64 a0),.d (.int .i64 a1)] (.d (.int .i64 y)) := by
 refine spec_mir Tryz.func59 rfl (by kernel_rfl) (by kernel_rfl) (fun y : Int=>.d (.int .i64 y)) ?_ h
 unfold cmp_Compare_int64
 simp only [List.replicate,List.length,nS,nA,Tryz.ntmps59,SV]
 refine .sR fun e h=>?_
 simp only [seval,EMK]
 refine mU e (.seqK (.bind fun y1 hy1=>.region fun e h=>?_)) h
 simp only [seval,EMK]
 refine SpecS.by (cmp_isNaN_int64_spec hy1) (by simp only [seval,FMK]) ?_
 simp only [seval,EMK]
 refine mU e (.seqK (.bind fun y2 hy2=>.region fun e h=>?_)) h
 simp only [seval,EMK]
 refine SpecS.by (cmp_isNaN_int64_spec hy2) (by simp only [seval,FMK]) ?_
 simp only [seval,EMK]
 refine mU e (.seqK (.sR fun e h=>?_)) h
 simp only [seval,EMK]
 refine mU e (.cond rfl (fun hb6=>?_) (fun hb6=>?_)) h
 refine .seqK (.sR fun e h=>?_)
 simp only [seval,EMK]
 refine mU e (.cond rfl (fun hb8=>?_) (fun hb8=>?_)) h
 refine .sR fun e h=>?_
 simp only [seval,EMK]
 refine mU e (.ret fun e h=>?_) h
 cases h
 simp only [seval,FMK,Tryz.results59]
 refine .skip (Mir.toK (.sR fun e h=>?_))
 simp only [seval,EMK]
 refine mU e (.ret fun e h=>?_) h
 cases h
 simp only [seval,FMK,Tryz.results59]
 refine .skip (Mir.toK (.seqK (.sR fun e h=>?_)))
 simp only [seval,EMK]
 refine mU e (.cond rfl (fun hb10=>?_) (fun hb10=>?_)) h
 refine .sR fun e h=>?_
 simp only [seval,EMK]
 refine mU e (.ret fun e h=>?_) h
 cases h
 simp only [seval,FMK,Tryz.results59]
 refine .skip (Mir.toK (.seqK (.sR fun e h=>?_)))
 simp only [seval,EMK]
 refine mU e (.cond rfl (fun hb12=>?_) (fun hb12=>?_)) h
 refine .sR fun e h=>?_
 simp only [seval,EMK]
 refine mU e (.ret fun e h=>?_) h
 cases h
 simp only [seval,FMK,Tryz.results59]
 refine .skip (Mir.toK (.seqK (.sR fun e h=>?_)))
 simp only [seval,EMK]
 refine mU e (.cond rfl (fun hb14=>?_) (fun hb14=>?_)) h
 refine .sR fun e h=>?_
 simp only [seval,EMK]
 refine mU e (.ret fun e h=>?_) h
 cases h
 simp only [seval,FMK,Tryz.results59]
 refine .skip (Mir.toK (.sR fun e h=>?_))
 simp only [seval,EMK]
 refine mU e (.ret fun e h=>?_) h
 cases h
 simp only [seval,FMK,Tryz.results59]
def tb_find_c1 (a0 : TableLength) (a1 : Int) : Option Int := bindO (cmp_Compare_int64 a0.Number a1) fun (y1 : Int)=>some y1
theorem tb_find_c1_spec {a0 : TableLength} {a1 : Int} {y : Int} (h : tb_find_c1 a0 a1 = some y) : Spec gP 58 [.agg [.d (.int .i64 a0.Number),.d (.int .i64 a0.Length)],.d (.int .i64 a1)] (.d (.int .i64 y)) := by
 refine spec_mir Tryz.func58 rfl (by kernel_rfl) (by kernel_rfl) (fun y : Int=>.d (.int .i64 y)) ?_ h
 unfold tb_find_c1
 simp only [List.replicate,List.length,nS,nA,Tryz.ntmps58,SV]
 refine .sR fun e h=>?_
 simp only [seval,EMK]
 refine mU e (.seqK (.bind fun y1 hy1=>.region fun e h=>?_)) h
 simp only [seval,EMK,fld_65_0,sz_2,ag_2]
 refine SpecS.by (cmp_Compare_int64_spec hy1) (by simp only [seval,FMK]) ?_
 simp only [seval,EMK]
 refine mU e (.ret fun e h=>?_) h
 cases h
 simp only [seval,FMK,Tryz.results58]
def tb_find (a0 : TableTable) (a1 : Int) : Option (Int × Bool) := bindO (bindO (loopX (fun (v1 : Int × Int)=>if (decide (v1.1 < v1.2)) = true then bindO (gt a0.Lengths (IntKind.i64.wrap (shrI .u64 (IntKind.u64.wrap (IntKind.i64.wrap (v1.1 + v1.2))) 1))) fun (e1 : TableLength)=>bindO (tb_find_c1 e1 a1) fun (y1 : Int)=>if (decide (y1 < 0)) = true then some (.go (IntKind.i64.wrap ((IntKind.i64.wrap (shrI .u64 (IntKind.u64.wrap (IntKind.i64.wrap (v1.1 + v1.2))) 1)) + 1),v1.2)) else some (.go (v1.1,IntKind.i64.wrap (shrI .u64 (IntKind.u64.wrap (IntKind.i64.wrap (v1.1 + v1.2))) 1))) else some (.ret v1.1)) fuel (0,(a0.Lengths.length : Int))) fun (v2 : Int)=>bindO (if (decide (v2 < (a0.Lengths.length : Int))) = true then bindO (gt a0.Lengths v2) fun (e2 : TableLength)=>bindO (tb_find_c1 e2 a1) fun (y2 : Int)=>some (y2 == 0) else some false) fun (v3 : Bool)=>some (v2,v3)) fun (v4 : Int × Bool)=>some (v4.1,v4.2)
theorem tb_find_spec {a0 : TableTable} {a1 : Int} {y : Int × Bool} (h : tb_find a0 a1 = some y) : Spec gP 33 [.agg [.d (.int .i64 a0.Work.e0.X),.d (.int .i64 a0.Work.e0.Y),.d (.int .i64 a0.Work.e0.Z),.d (.int .i64 a0.Work.e1.X),.d (.int .i64 a0.Work.e1.Y),.d (.int .i64 a0.Work.e1.Z),.d (.int .i64 a0.Work.e2.X),.d (.int .i64 a0.Work.e2.Y),.d (.int .i64 a0.Work.e2.Z),.d (.int .i64 a0.Work.e3.X),.d (.int .i64 a0.Work.e3.Y),.d (.int .i64 a0.Work.e3.Z),.d (.int .i64 a0.Work.e4.X),.d (.int .i64 a0.Work.e4.Y),.d (.int .i64 a0.Work.e4.Z),.d (.int .i64 a0.Work.e5.X),.d (.int .i64 a0.Work.e5.Y),.d (.int .i64 a0.Work.e5.Z),.d (.list (List.map encTableLength a0.Lengths))],.d (.int .i64 a1)] (.tuple [.d (.int .i64 y.1),.d (.bool y.2)]) := by
 refine spec_mir Tryz.func33 rfl (by kernel_rfl) (by kernel_rfl) (fun y : Int × Bool=>.tuple [.d (.int .i64 y.1),.d (.bool y.2)]) ?_ h
 unfold tb_find
 simp only [List.replicate,List.length,nS,nA,Tryz.ntmps33,SV]
 refine .sR fun e h=>?_
 simp only [seval,EMK]
 refine mU e (.seqK (.bind fun v4 hv34=>.region fun e h=>?_)) h
 simp only [seval,EMK,fld_34_1,sz_32,ag_32]
 refine SpecS.inl Tryz.func57 rfl (by kernel_rfl) (by kernel_rfl) (fun v4 : Int × Bool=>.tuple [.d (.int .i64 v4.1),.d (.bool v4.2)]) (fun v4=>⟨[[.d (.int .i64 a0.Work.e0.X),.d (.int .i64 a0.Work.e0.Y),.d (.int .i64 a0.Work.e0.Z),.d (.int .i64 a0.Work.e1.X),.d (.int .i64 a0.Work.e1.Y),.d (.int .i64 a0.Work.e1.Z),.d (.int .i64 a0.Work.e2.X),.d (.int .i64 a0.Work.e2.Y),.d (.int .i64 a0.Work.e2.Z),.d (.int .i64 a0.Work.e3.X),.d (.int .i64 a0.Work.e3.Y),.d (.int .i64 a0.Work.e3.Z),.d (.int .i64 a0.Work.e4.X),.d (.int .i64 a0.Work.e4.Y),.d (.int .i64 a0.Work.e4.Z),.d (.int .i64 a0.Work.e5.X),.d (.int .i64 a0.Work.e5.Y),.d (.int .i64 a0.Work.e5.Z),.d (.list (List.map encTableLength a0.Lengths))]],[]⟩) hv34 rfl ?_ ?_
 simp only [List.replicate,List.length,nS,nA,Tryz.ntmps57,SV]
 refine .sR fun e h=>?_
 simp only [seval,EMK]
 refine mU e (.sR fun e h=>?_) h
 simp only [seval,EMK,und_32]
 refine mU e (.sR fun e h=>?_) h
 simp only [seval,EMK]
 refine mU e (.seqK (Mir.joinO (fun v2 : Int=>([.d (.list (List.map encTableLength a0.Lengths)),.d (.int .i64 a1),.fn 58 [],U,U,U,U,U,.d (.int .i64 (a0.Lengths.length : Int)),.d (.int .i64 v2)] ++ us 39)) (fun v2=>⟨[[.d (.int .i64 a0.Work.e0.X),.d (.int .i64 a0.Work.e0.Y),.d (.int .i64 a0.Work.e0.Z),.d (.int .i64 a0.Work.e1.X),.d (.int .i64 a0.Work.e1.Y),.d (.int .i64 a0.Work.e1.Z),.d (.int .i64 a0.Work.e2.X),.d (.int .i64 a0.Work.e2.Y),.d (.int .i64 a0.Work.e2.Z),.d (.int .i64 a0.Work.e3.X),.d (.int .i64 a0.Work.e3.Y),.d (.int .i64 a0.Work.e3.Z),.d (.int .i64 a0.Work.e4.X),.d (.int .i64 a0.Work.e4.Y),.d (.int .i64 a0.Work.e4.Z),.d (.int .i64 a0.Work.e5.X),.d (.int .i64 a0.Work.e5.Y),.d (.int .i64 a0.Work.e5.Z),.d (.list (List.map encTableLength a0.Lengths))]],[]⟩) (fun _=>rfl) ?_ ?_)) h
 refine .block (Mir.loop (fun v1 : Int × Int=>([.d (.list (List.map encTableLength a0.Lengths)),.d (.int .i64 a1),.fn 58 [],U,U,U,U,U,.d (.int .i64 (a0.Lengths.length : Int)),.d (.int .i64 v1.1),.d (.int .i64 v1.2)] ++ us 38)) (fun v1=>⟨[[.d (.int .i64 a0.Work.e0.X),.d (.int .i64 a0.Work.e0.Y),.d (.int .i64 a0.Work.e0.Z),.d (.int .i64 a0.Work.e1.X),.d (.int .i64 a0.Work.e1.Y),.d (.int .i64 a0.Work.e1.Z),.d (.int .i64 a0.Work.e2.X),.d (.int .i64 a0.Work.e2.Y),.d (.int .i64 a0.Work.e2.Z),.d (.int .i64 a0.Work.e3.X),.d (.int .i64 a0.Work.e3.Y),.d (.int .i64 a0.Work.e3.Z),.d (.int .i64 a0.Work.e4.X),.d (.int .i64 a0.Work.e4.Y),.d (.int .i64 a0.Work.e4.Z),.d (.int .i64 a0.Work.e5.X),.d (.int .i64 a0.Work.e5.Y),.d (.int .i64 a0.Work.e5.Z),.d (.list (List.map encTableLength a0.Lengths))]],[]⟩) (fun _=>rfl) (by simp only [seval,FMK]) (by simp only [seval,FMK]) fun v1=>.seqK (.sR fun e h=>?_))
 simp only [seval,EMK]
 refine mU e (.cond rfl (fun hb61=>?_) (fun hb61=>?_)) h
 refine .skip (Mir.toK (.block (.sR fun e h=>?_)))
 simp only [seval,EMK,und_3,und_147]
 refine mU e (.seqK (.bind fun e1 q62=>?_)) h
 replace q62 := gt_ok q62
 refine .bind fun y1 hy63=>.region fun e h=>?_
 simp only [seval,EMK,und_32,sz_65,q62,ag_65]
 refine SpecS.by (tb_find_c1_spec hy63) (by simp only [seval,FMK]) ?_
 simp only [seval,EMK]
 refine mU e (.cond rfl (fun hb64=>?_) (fun hb64=>?_)) h
 refine .region fun e h=>?_
 simp only [seval,EMK]
 cases h
 simp only [seval,FMK,Tryz.results57]
 refine .region fun e h=>?_
 simp only [seval,EMK]
 cases h
 simp only [seval,FMK,Tryz.results57]
 refine .exit fun e h=>?_
 cases h
 simp only [seval,FMK,Tryz.results57]
 intro v2
 refine Mir.toK (.seqK (Mir.joinO (fun v3 : Bool=>([U,U,U,U,U,U,.d (.int .i64 v2),.d (.bool v3)] ++ us 41)) (fun v3=>⟨[[.d (.int .i64 a0.Work.e0.X),.d (.int .i64 a0.Work.e0.Y),.d (.int .i64 a0.Work.e0.Z),.d (.int .i64 a0.Work.e1.X),.d (.int .i64 a0.Work.e1.Y),.d (.int .i64 a0.Work.e1.Z),.d (.int .i64 a0.Work.e2.X),.d (.int .i64 a0.Work.e2.Y),.d (.int .i64 a0.Work.e2.Z),.d (.int .i64 a0.Work.e3.X),.d (.int .i64 a0.Work.e3.Y),.d (.int .i64 a0.Work.e3.Z),.d (.int .i64 a0.Work.e4.X),.d (.int .i64 a0.Work.e4.Y),.d (.int .i64 a0.Work.e4.Z),.d (.int .i64 a0.Work.e5.X),.d (.int .i64 a0.Work.e5.Y),.d (.int .i64 a0.Work.e5.Z),.d (.list (List.map encTableLength a0.Lengths))]],[]⟩) (fun _=>rfl) ?_ ?_))
 refine .ite (fun hb65=>?_) (fun hb65=>?_)
 refine .bind fun e2 q66=>?_
 replace q66 := gt_ok q66
 refine .bind fun y2 hy67=>.region fun e h=>?_
 simp only [seval,EMK,und_32,sz_65,q66,ag_65,hb65]
 refine SpecS.by (tb_find_c1_spec hy67) (by simp only [seval,FMK,hb65]) ?_
 simp only [seval,EMK,hb65]
 cases h
 simp only [seval,FMK,hb65]
 refine .region fun e h=>?_
 simp only [seval,EMK,hb65]
 cases h
 simp only [seval,FMK,hb65]
 intro v3
 refine Mir.toK (.ret fun e h=>?_)
 cases h
 simp only [seval,FMK,Tryz.results57]
 simp only [seval,EMK]
 refine mU e (.ret fun e h=>?_) h
 cases h
 simp only [seval,FMK,Tryz.results33]
def tb_SetLength (a0 : TableTable) (a1 : Int) (a2 : Int) : Option (TableTable × Int) := bindO (bindO (tb_Valid a0) fun (y1 : Int)=>if (y1 != 0) = true then some true else bindO (tb_entry (TableLength.mk a1 a2)) fun (y2 : Bool)=>some (!y2)) fun (v1 : Bool)=>if v1 = true then some (TableTable.mk (Arr6ApiPos.mk (ApiPos.mk 0 0 0) (ApiPos.mk 0 0 0) (ApiPos.mk 0 0 0) (ApiPos.mk 0 0 0) (ApiPos.mk 0 0 0) (ApiPos.mk 0 0 0)) [],1) else bindO (bindO (slices_Clone_table_Length_table_Length a0.Lengths) fun (y3 : (List TableLength))=>some y3) fun (v2 : (List TableLength))=>bindO (tb_find (TableTable.mk a0.Work v2) a1) fun (y4 : Int × Bool)=>if y4.2 = true then bindO (gt v2 y4.1) fun (e1 : TableLength)=>some (TableTable.mk a0.Work (v2.set (Int.toNat y4.1) (TableLength.mk a1 a2)),0) else guardO (decide (0 ≤ y4.1 ∧ y4.1 ≤ (v2.length : Int))) ( guardO (okLen (v2.length + 1)) ( some (TableTable.mk a0.Work (v2.take (Int.toNat y4.1) ++ [TableLength.mk a1 a2] ++ v2.drop (Int.toNat y4.1)),0)))
theorem tb_SetLength_spec {a0 : TableTable} {a1 : Int} {a2 : Int} {y : TableTable × Int} (h : tb_SetLength a0 a1 a2 = some y) : Spec gP 15 [.agg [.d (.int .i64 a0.Work.e0.X),.d (.int .i64 a0.Work.e0.Y),.d (.int .i64 a0.Work.e0.Z),.d (.int .i64 a0.Work.e1.X),.d (.int .i64 a0.Work.e1.Y),.d (.int .i64 a0.Work.e1.Z),.d (.int .i64 a0.Work.e2.X),.d (.int .i64 a0.Work.e2.Y),.d (.int .i64 a0.Work.e2.Z),.d (.int .i64 a0.Work.e3.X),.d (.int .i64 a0.Work.e3.Y),.d (.int .i64 a0.Work.e3.Z),.d (.int .i64 a0.Work.e4.X),.d (.int .i64 a0.Work.e4.Y),.d (.int .i64 a0.Work.e4.Z),.d (.int .i64 a0.Work.e5.X),.d (.int .i64 a0.Work.e5.Y),.d (.int .i64 a0.Work.e5.Z),.d (.list (List.map encTableLength a0.Lengths))],.d (.int .i64 a1),.d (.int .i64 a2)] (.tuple [.agg [.d (.int .i64 y.1.Work.e0.X),.d (.int .i64 y.1.Work.e0.Y),.d (.int .i64 y.1.Work.e0.Z),.d (.int .i64 y.1.Work.e1.X),.d (.int .i64 y.1.Work.e1.Y),.d (.int .i64 y.1.Work.e1.Z),.d (.int .i64 y.1.Work.e2.X),.d (.int .i64 y.1.Work.e2.Y),.d (.int .i64 y.1.Work.e2.Z),.d (.int .i64 y.1.Work.e3.X),.d (.int .i64 y.1.Work.e3.Y),.d (.int .i64 y.1.Work.e3.Z),.d (.int .i64 y.1.Work.e4.X),.d (.int .i64 y.1.Work.e4.Y),.d (.int .i64 y.1.Work.e4.Z),.d (.int .i64 y.1.Work.e5.X),.d (.int .i64 y.1.Work.e5.Y),.d (.int .i64 y.1.Work.e5.Z),.d (.list (List.map encTableLength y.1.Lengths))],.d (.int .i64 y.2)]) := by
 refine spec_mir Tryz.func15 rfl (by kernel_rfl) (by kernel_rfl) (fun y : TableTable × Int=>.tuple [.agg [.d (.int .i64 y.1.Work.e0.X),.d (.int .i64 y.1.Work.e0.Y),.d (.int .i64 y.1.Work.e0.Z),.d (.int .i64 y.1.Work.e1.X),.d (.int .i64 y.1.Work.e1.Y),.d (.int .i64 y.1.Work.e1.Z),.d (.int .i64 y.1.Work.e2.X),.d (.int .i64 y.1.Work.e2.Y),.d (.int .i64 y.1.Work.e2.Z),.d (.int .i64 y.1.Work.e3.X),.d (.int .i64 y.1.Work.e3.Y),.d (.int .i64 y.1.Work.e3.Z),.d (.int .i64 y.1.Work.e4.X),.d (.int .i64 y.1.Work.e4.Y),.d (.int .i64 y.1.Work.e4.Z),.d (.int .i64 y.1.Work.e5.X),.d (.int .i64 y.1.Work.e5.Y),.d (.int .i64 y.1.Work.e5.Z),.d (.list (List.map encTableLength y.1.Lengths))],.d (.int .i64 y.2)]) ?_ h
 unfold tb_SetLength
 simp only [List.replicate,List.length,nS,nA,Tryz.ntmps15,SV]
 refine .sR fun e h=>?_
 simp only [seval,EMK,zero_34,rmap_set,spD]
 refine mU e (.sR fun e h=>?_) h
 simp only [seval,EMK,zero_65,pl_65,sz_65,rmap_set,spD]
 refine mU e (.seqK (.seqK (Mir.joinO (fun v1 : Bool=>([U,.d (.int .i64 a1),U,.ptr 0 0,U,U,.ptr 1 0,U,.ptr 2 0,U,U,U,U,U,U,U,U,U,U,U,U,U,.d (.bool v1)] ++ us 23)) (fun v1=>⟨[[.d (.int .i64 a0.Work.e0.X),.d (.int .i64 a0.Work.e0.Y),.d (.int .i64 a0.Work.e0.Z),.d (.int .i64 a0.Work.e1.X),.d (.int .i64 a0.Work.e1.Y),.d (.int .i64 a0.Work.e1.Z),.d (.int .i64 a0.Work.e2.X),.d (.int .i64 a0.Work.e2.Y),.d (.int .i64 a0.Work.e2.Z),.d (.int .i64 a0.Work.e3.X),.d (.int .i64 a0.Work.e3.Y),.d (.int .i64 a0.Work.e3.Z),.d (.int .i64 a0.Work.e4.X),.d (.int .i64 a0.Work.e4.Y),.d (.int .i64 a0.Work.e4.Z),.d (.int .i64 a0.Work.e5.X),.d (.int .i64 a0.Work.e5.Y),.d (.int .i64 a0.Work.e5.Z),.d (.list (List.map encTableLength a0.Lengths))],[.d (.int .i64 0),.d (.int .i64 0),.d (.int .i64 0),.d (.int .i64 0),.d (.int .i64 0),.d (.int .i64 0),.d (.int .i64 0),.d (.int .i64 0),.d (.int .i64 0),.d (.int .i64 0),.d (.int .i64 0),.d (.int .i64 0),.d (.int .i64 0),.d (.int .i64 0),.d (.int .i64 0),.d (.int .i64 0),.d (.int .i64 0),.d (.int .i64 0),.nil],[.d (.int .i64 a1),.d (.int .i64 a2)]],[]⟩) (fun _=>rfl) ?_ ?_))) h
 refine .bind fun y1 hy1=>.ite (fun hb2=>?_) (fun hb2=>?_)
 refine .region fun e h=>?_
 simp only [seval,EMK,ag_34,sz_34,hb2]
 refine SpecS.by (tb_Valid_spec hy1) (by simp only [seval,FMK,hb2]) ?_
 simp only [seval,EMK,hb2]
 cases h
 simp only [seval,FMK,hb2]
 refine .bind fun y2 hy3=>.region fun e h=>?_
 simp only [seval,EMK,ag_34,sz_34,hb2]
 refine SpecS.by (tb_Valid_spec hy1) (by simp only [seval,FMK,hb2]) ?_
 simp only [seval,EMK,ag_65,sz_65,hb2]
 refine SpecS.by (tb_entry_spec hy3) (by simp only [seval,FMK,hb2]) ?_
 simp only [seval,EMK,hb2]
 cases h
 simp only [seval,FMK,hb2]
 intro v1
 refine Mir.toK (.cond rfl (fun hb5=>?_) (fun hb5=>?_))
 refine .sR fun e h=>?_
 simp only [seval,EMK,zero_34,pl_34,sz_34]
 refine mU e (.ret fun e h=>?_) h
 cases h
 simp only [seval,FMK,Tryz.results15,ag_34,sz_34]
 refine .skip (Mir.toK (.seqK (.bind fun v2 hv7=>.region fun e h=>?_)))
 simp only [seval,EMK,ag_34,sz_34,rmap_set,spD]
 refine SpecS.inl Tryz.func31 rfl (by kernel_rfl) (by kernel_rfl) (fun v2 : (List TableLength)=>.agg [.d (.int .i64 a0.Work.e0.X),.d (.int .i64 a0.Work.e0.Y),.d (.int .i64 a0.Work.e0.Z),.d (.int .i64 a0.Work.e1.X),.d (.int .i64 a0.Work.e1.Y),.d (.int .i64 a0.Work.e1.Z),.d (.int .i64 a0.Work.e2.X),.d (.int .i64 a0.Work.e2.Y),.d (.int .i64 a0.Work.e2.Z),.d (.int .i64 a0.Work.e3.X),.d (.int .i64 a0.Work.e3.Y),.d (.int .i64 a0.Work.e3.Z),.d (.int .i64 a0.Work.e4.X),.d (.int .i64 a0.Work.e4.Y),.d (.int .i64 a0.Work.e4.Z),.d (.int .i64 a0.Work.e5.X),.d (.int .i64 a0.Work.e5.Y),.d (.int .i64 a0.Work.e5.Z),.gr 5 0]) (fun v2=>⟨[[.d (.int .i64 a0.Work.e0.X),.d (.int .i64 a0.Work.e0.Y),.d (.int .i64 a0.Work.e0.Z),.d (.int .i64 a0.Work.e1.X),.d (.int .i64 a0.Work.e1.Y),.d (.int .i64 a0.Work.e1.Z),.d (.int .i64 a0.Work.e2.X),.d (.int .i64 a0.Work.e2.Y),.d (.int .i64 a0.Work.e2.Z),.d (.int .i64 a0.Work.e3.X),.d (.int .i64 a0.Work.e3.Y),.d (.int .i64 a0.Work.e3.Z),.d (.int .i64 a0.Work.e4.X),.d (.int .i64 a0.Work.e4.Y),.d (.int .i64 a0.Work.e4.Z),.d (.int .i64 a0.Work.e5.X),.d (.int .i64 a0.Work.e5.Y),.d (.int .i64 a0.Work.e5.Z),.d (.list (List.map encTableLength a0.Lengths))],[.d (.int .i64 0),.d (.int .i64 0),.d (.int .i64 0),.d (.int .i64 0),.d (.int .i64 0),.d (.int .i64 0),.d (.int .i64 0),.d (.int .i64 0),.d (.int .i64 0),.d (.int .i64 0),.d (.int .i64 0),.d (.int .i64 0),.d (.int .i64 0),.d (.int .i64 0),.d (.int .i64 0),.d (.int .i64 0),.d (.int .i64 0),.d (.int .i64 0),.nil],[.d (.int .i64 a1),.d (.int .i64 a2)],[.d (.int .i64 a0.Work.e0.X),.d (.int .i64 a0.Work.e0.Y),.d (.int .i64 a0.Work.e0.Z),.d (.int .i64 a0.Work.e1.X),.d (.int .i64 a0.Work.e1.Y),.d (.int .i64 a0.Work.e1.Z),.d (.int .i64 a0.Work.e2.X),.d (.int .i64 a0.Work.e2.Y),.d (.int .i64 a0.Work.e2.Z),.d (.int .i64 a0.Work.e3.X),.d (.int .i64 a0.Work.e3.Y),.d (.int .i64 a0.Work.e3.Z),.d (.int .i64 a0.Work.e4.X),.d (.int .i64 a0.Work.e4.Y),.d (.int .i64 a0.Work.e4.Z),.d (.int .i64 a0.Work.e5.X),.d (.int .i64 a0.Work.e5.Y),.d (.int .i64 a0.Work.e5.Z),.gr 5 0],[.d (.int .i64 a0.Work.e0.X),.d (.int .i64 a0.Work.e0.Y),.d (.int .i64 a0.Work.e0.Z),.d (.int .i64 a0.Work.e1.X),.d (.int .i64 a0.Work.e1.Y),.d (.int .i64 a0.Work.e1.Z),.d (.int .i64 a0.Work.e2.X),.d (.int .i64 a0.Work.e2.Y),.d (.int .i64 a0.Work.e2.Z),.d (.int .i64 a0.Work.e3.X),.d (.int .i64 a0.Work.e3.Y),.d (.int .i64 a0.Work.e3.Z),.d (.int .i64 a0.Work.e4.X),.d (.int .i64 a0.Work.e4.Y),.d (.int .i64 a0.Work.e4.Z),.d (.int .i64 a0.Work.e5.X),.d (.int .i64 a0.Work.e5.Y),.d (.int .i64 a0.Work.e5.Z),.gr 5 0],[.rowc 65 0 (List.map encTableLength v2)]],[]⟩) hv7 rfl ?_ ?_
 simp only [List.replicate,List.length,nS,nA,Tryz.ntmps31,SV]
 refine .sR fun e h=>?_
 simp only [seval,EMK,zero_34]
 refine mU e (.seqK (.bind fun y3 hy8=>.region fun e h=>?_)) h
 simp only [seval,EMK,fld_34_1,sz_32,ag_32]
 refine SpecY.toS (slices_Clone_table_Length_table_Length_specY hy8) (by simp only [seval,FMK]) ?_
 simp only [seval,EMK,fld_34_1,sz_32]
 refine mU e (.sR fun e h=>?_) h
 simp only [seval,EMK,ag_34,sz_34]
 refine mU e (.ret fun e h=>?_) h
 cases h
 simp only [seval,FMK,Tryz.results31,ag_34,sz_34]
 simp only [seval,EMK,zero_34,sz_34,rmap_set,spD]
 refine mU e (.seqK (.seqK (.bind fun y4 hy9=>.region fun e h=>?_))) h
 simp only [seval,EMK,ag_34,sz_34,rmap_set,spD]
 refine SpecS.byZ (tb_find_spec hy9) rfl rfl ?_
 simp only [seval,EMK,rmap_set,spD]
 refine mU e (.sR fun e h=>?_) h
 simp only [seval,EMK,rmap_set,spD]
 refine mU e (.cond rfl (fun hb14=>?_) (fun hb14=>?_)) h
 refine .bind fun e1 q15=>?_
 replace q15 := gt_ok q15
 refine .regionW fun e h=>regW.alt 4 rfl ?_
 simp only [seval,EMK,w_none,w_eq,fld_34_1,sz_32,ag_32,ag_65,sz_65,rmap_set,spD]
 refine alt_indexR rfl rfl rfl und_32 sz_65 (row_lo q15.1) (row_hi q15.2 q15.1) (regW.alt 0 rfl ?_)
 simp only [seval,EMK,w_none,w_eq,und_32,sz_65,rmap_set,spD]
 refine alt_storeR rfl rfl (row_at q15.2) rfl rfl sz_65 rfl (Nat.le_of_ble_eq_true rfl) (regW.of ?_)
 simp only [seval,EMK,w_none,w_eq,sz_65,rmap_set,spD]
 refine mU e (.sR fun e h=>?_) h
 simp only [seval,EMK,ag_34,sz_34,rmap_set,spD]
 refine mU e (.frz 5 rfl ?_) h
 simp only [seval,us_0,us_s,xCA,xNA,and_self,and_true,true_and,and_false,false_and,SZ]
 refine .ret fun e h=>?_
 cases h
 simp only [seval,FMK,rmap_set,spD,Tryz.results15,ag_34,sz_34]
 refine .guard fun q16=>.guard fun q17=>.region fun e h=>?_
 simp only [seval,EMK,fld_34_1,sz_32,ag_32,ag_65,sz_65,und_32,zero_65,(oL 2),rmap_set,spD]
 refine specS_ins_TableLength encTableLength v2 (TableLength.mk a1 a2) rfl (of_decide_eq_true q16).1 (of_decide_eq_true q16).2 q17 rfl ?_
 simp only [seval,EMK,fld_34_1,sz_32,rmap_set,spD]
 refine mU e (.sR fun e h=>?_) h
 simp only [seval,EMK,ag_34,sz_34,rmap_set,spD]
 refine mU e (.frz 5 rfl ?_) h
 simp only [seval,us_0,us_s,xCA,xNA,and_self,and_true,true_and,and_false,false_and,SZ]
 refine .ret fun e h=>?_
 cases h
 simp only [seval,FMK,rmap_set,spD,Tryz.results15,ag_34,sz_34]
def tb_length (a0 : TableTable) (a1 : Int) : Option (Int × Int) := if (a1 == 0) = true then some (0,0) else bindO (tb_find a0 a1) fun (y1 : Int × Bool)=>if (!y1.2) = true then some (0,4) else bindO (gt a0.Lengths y1.1) fun (e1 : TableLength)=>some (e1.Length,0)
theorem tb_length_spec {a0 : TableTable} {a1 : Int} {y : Int × Int} (h : tb_length a0 a1 = some y) : Spec gP 62 [.agg [.d (.int .i64 a0.Work.e0.X),.d (.int .i64 a0.Work.e0.Y),.d (.int .i64 a0.Work.e0.Z),.d (.int .i64 a0.Work.e1.X),.d (.int .i64 a0.Work.e1.Y),.d (.int .i64 a0.Work.e1.Z),.d (.int .i64 a0.Work.e2.X),.d (.int .i64 a0.Work.e2.Y),.d (.int .i64 a0.Work.e2.Z),.d (.int .i64 a0.Work.e3.X),.d (.int .i64 a0.Work.e3.Y),.d (.int .i64 a0.Work.e3.Z),.d (.int .i64 a0.Work.e4.X),.d (.int .i64 a0.Work.e4.Y),.d (.int .i64 a0.Work.e4.Z),.d (.int .i64 a0.Work.e5.X),.d (.int .i64 a0.Work.e5.Y),.d (.int .i64 a0.Work.e5.Z),.d (.list (List.map encTableLength a0.Lengths))],.d (.int .i64 a1)] (.tuple [.d (.int .i64 y.1),.d (.int .i64 y.2)]) := by
 refine spec_mir Tryz.func62 rfl (by kernel_rfl) (by kernel_rfl) (fun y : Int × Int=>.tuple [.d (.int .i64 y.1),.d (.int .i64 y.2)]) ?_ h
 unfold tb_length
 simp only [List.replicate,List.length,nS,nA,Tryz.ntmps62,SV]
 refine .sR fun e h=>?_
 simp only [seval,EMK]
 refine mU e (.seqK (.sR fun e h=>?_)) h
 simp only [seval,EMK]
 refine mU e (.cond rfl (fun hb2=>?_) (fun hb2=>?_)) h
 refine .sR fun e h=>?_
 simp only [seval,EMK]
 refine mU e (.ret fun e h=>?_) h
 cases h
 simp only [seval,FMK,Tryz.results62]
 refine .skip (Mir.toK (.seqK (.bind fun y1 hy3=>.region fun e h=>?_)))
 simp only [seval,EMK,ag_34,sz_34]
 refine SpecS.by (tb_find_spec hy3) (by simp only [seval,FMK]) ?_
 simp only [seval,EMK]
 refine mU e (.seqK (.sR fun e h=>?_)) h
 simp only [seval,EMK]
 refine mU e (.cond rfl (fun hb5=>?_) (fun hb5=>?_)) h
 refine .sR fun e h=>?_
 simp only [seval,EMK]
 refine mU e (.ret fun e h=>?_) h
 cases h
 simp only [seval,FMK,Tryz.results62]
 refine .skip (Mir.toK (.seqK (.bind fun e1 q6=>?_)))
 replace q6 := gt_ok q6
 refine .region fun e h=>?_
 simp only [seval,EMK,fld_34_1,sz_32,ag_32,und_32,sz_65,q6,fld_65_1,sz_2,ag_2]
 refine mU e (.ret fun e h=>?_) h
 cases h
 simp only [seval,FMK,Tryz.results62]
def tb_offset (a0 : TableTable) (a1 : Int) (a2 : Int) : Option (ApiPos × Int) := bindO (tb_Valid a0) fun (y1 : Int)=>if (y1 != 0) = true then some (ApiPos.mk 0 0 0,y1) else bindO (tb_slot a1) fun (y2 : Int × Int)=>bindO (tb_length a0 a2) fun (y3 : Int × Int)=>if ((y2.2 != 0) || (y3.2 != 0)) = true then some (ApiPos.mk 0 0 0,4) else bindO (guardO (decide (0 ≤ y2.1 ∧ y2.1 < 6)) ( if (y2.1 == 0) = true then some a0.Work.e0 else if (y2.1 == 1) = true then some a0.Work.e1 else if (y2.1 == 2) = true then some a0.Work.e2 else if (y2.1 == 3) = true then some a0.Work.e3 else if (y2.1 == 4) = true then some a0.Work.e4 else some a0.Work.e5)) fun (v1 : ApiPos)=>some (ApiPos.mk v1.X v1.Y (IntKind.i64.wrap (v1.Z + y3.1)),0)
theorem tb_offset_spec {a0 : TableTable} {a1 : Int} {a2 : Int} {y : ApiPos × Int} (h : tb_offset a0 a1 a2 = some y) : Spec gP 35 [.agg [.d (.int .i64 a0.Work.e0.X),.d (.int .i64 a0.Work.e0.Y),.d (.int .i64 a0.Work.e0.Z),.d (.int .i64 a0.Work.e1.X),.d (.int .i64 a0.Work.e1.Y),.d (.int .i64 a0.Work.e1.Z),.d (.int .i64 a0.Work.e2.X),.d (.int .i64 a0.Work.e2.Y),.d (.int .i64 a0.Work.e2.Z),.d (.int .i64 a0.Work.e3.X),.d (.int .i64 a0.Work.e3.Y),.d (.int .i64 a0.Work.e3.Z),.d (.int .i64 a0.Work.e4.X),.d (.int .i64 a0.Work.e4.Y),.d (.int .i64 a0.Work.e4.Z),.d (.int .i64 a0.Work.e5.X),.d (.int .i64 a0.Work.e5.Y),.d (.int .i64 a0.Work.e5.Z),.d (.list (List.map encTableLength a0.Lengths))],.d (.int .i64 a1),.d (.int .i64 a2)] (.tuple [.agg [.d (.int .i64 y.1.X),.d (.int .i64 y.1.Y),.d (.int .i64 y.1.Z)],.d (.int .i64 y.2)]) := by
 refine spec_mir Tryz.func35 rfl (by kernel_rfl) (by kernel_rfl) (fun y : ApiPos × Int=>.tuple [.agg [.d (.int .i64 y.1.X),.d (.int .i64 y.1.Y),.d (.int .i64 y.1.Z)],.d (.int .i64 y.2)]) ?_ h
 unfold tb_offset
 simp only [List.replicate,List.length,nS,nA,Tryz.ntmps35,SV]
 refine .sR fun e h=>?_
 simp only [seval,EMK,zero_23]
 refine mU e (.seqK (.seqK (.bind fun y1 hy1=>.region fun e h=>?_))) h
 simp only [seval,EMK,ag_34,sz_34]
 refine SpecS.by (tb_Valid_spec hy1) (by simp only [seval,FMK]) ?_
 simp only [seval,EMK]
 refine mU e (.sR fun e h=>?_) h
 simp only [seval,EMK]
 refine mU e (.cond rfl (fun hb3=>?_) (fun hb3=>?_)) h
 refine .sR fun e h=>?_
 simp only [seval,EMK,zero_23,pl_23,sz_23]
 refine mU e (.ret fun e h=>?_) h
 cases h
 simp only [seval,FMK,Tryz.results35,ag_23,sz_23]
 refine .skip (Mir.toK (.seqK (.bind fun y2 hy4=>.region fun e h=>?_)))
 simp only [seval,EMK]
 refine SpecS.by (tb_slot_spec hy4) (by simp only [seval,FMK]) ?_
 simp only [seval,EMK]
 refine mU e (.seqK (.bind fun y3 hy5=>.region fun e h=>?_)) h
 simp only [seval,EMK,ag_34,sz_34]
 refine SpecS.by (tb_length_spec hy5) (by simp only [seval,FMK]) ?_
 simp only [seval,EMK]
 refine mU e (.seqK (.seqK (.joinV ([U,U,U,.ptr 0 0,U,U,.ptr 1 0,U,U,.d (.int .i64 y2.1),U,.d (.int .i64 y3.1),U,U,U,U,U,U,U,U,U,U,U,U,U,U,U,U,U,U,U,U,U,U,U,U,.d (.bool ((y2.2 != 0) || (y3.2 != 0)))] ++ us 11) ⟨[[.d (.int .i64 a0.Work.e0.X),.d (.int .i64 a0.Work.e0.Y),.d (.int .i64 a0.Work.e0.Z),.d (.int .i64 a0.Work.e1.X),.d (.int .i64 a0.Work.e1.Y),.d (.int .i64 a0.Work.e1.Z),.d (.int .i64 a0.Work.e2.X),.d (.int .i64 a0.Work.e2.Y),.d (.int .i64 a0.Work.e2.Z),.d (.int .i64 a0.Work.e3.X),.d (.int .i64 a0.Work.e3.Y),.d (.int .i64 a0.Work.e3.Z),.d (.int .i64 a0.Work.e4.X),.d (.int .i64 a0.Work.e4.Y),.d (.int .i64 a0.Work.e4.Z),.d (.int .i64 a0.Work.e5.X),.d (.int .i64 a0.Work.e5.Y),.d (.int .i64 a0.Work.e5.Z),.d (.list (List.map encTableLength a0.Lengths))],[.d (.int .i64 0),.d (.int .i64 0),.d (.int .i64 0)]],[]⟩ rfl ?_ ?_))) h
 refine SWs.region ?_
 rcases Bool.eq_false_or_eq_true (y2.2 != 0) with hb6 | hb6
 simp only [seval,EMK,SL,PB,hb6]
 simp only [seval,EMK,SL,PB,hb6]
 refine Mir.toK (.cond rfl (fun hb8=>?_) (fun hb8=>?_))
 refine .sR fun e h=>?_
 simp only [seval,EMK,zero_23,pl_23,sz_23]
 refine mU e (.ret fun e h=>?_) h
 cases h
 simp only [seval,FMK,Tryz.results35,ag_23,sz_23]
 refine .skip (Mir.toK (.seqK (Mir.joinO (fun v1 : ApiPos=>([U,U,U,U,U,U,.ptr 1 0,U,U,U,U,.d (.int .i64 y3.1),U,.ptr 2 0] ++ us 34)) (fun v1=>⟨[[.d (.int .i64 a0.Work.e0.X),.d (.int .i64 a0.Work.e0.Y),.d (.int .i64 a0.Work.e0.Z),.d (.int .i64 a0.Work.e1.X),.d (.int .i64 a0.Work.e1.Y),.d (.int .i64 a0.Work.e1.Z),.d (.int .i64 a0.Work.e2.X),.d (.int .i64 a0.Work.e2.Y),.d (.int .i64 a0.Work.e2.Z),.d (.int .i64 a0.Work.e3.X),.d (.int .i64 a0.Work.e3.Y),.d (.int .i64 a0.Work.e3.Z),.d (.int .i64 a0.Work.e4.X),.d (.int .i64 a0.Work.e4.Y),.d (.int .i64 a0.Work.e4.Z),.d (.int .i64 a0.Work.e5.X),.d (.int .i64 a0.Work.e5.Y),.d (.int .i64 a0.Work.e5.Z),.d (.list (List.map encTableLength a0.Lengths))],[.d (.int .i64 0),.d (.int .i64 0),.d (.int .i64 0)],[.d (.int .i64 v1.X),.d (.int .i64 v1.Y),.d (.int .i64 v1.Z)]],[]⟩) (fun _=>rfl) ?_ ?_)))
 refine .guard fun qi9=>.ite (fun hb10=>?_) (fun hb10=>?_)
 refine .region fun e h=>?_
 simp only [seval,EMK,fld_34_0,sz_24,und_24,(eq_of_beq hb10),sz_23,ag_23,zero_23,hb10]
 cases h
 simp only [seval,FMK,hb10]
 refine .ite (fun hb11=>?_) (fun hb11=>?_)
 refine .region fun e h=>?_
 simp only [seval,EMK,fld_34_0,sz_24,und_24,(eq_of_beq hb11),sz_23,ag_23,zero_23,hb10,hb11]
 cases h
 simp only [seval,FMK,hb10,hb11]
 refine .ite (fun hb12=>?_) (fun hb12=>?_)
 refine .region fun e h=>?_
 simp only [seval,EMK,fld_34_0,sz_24,und_24,(eq_of_beq hb12),sz_23,ag_23,zero_23,hb10,hb11,hb12]
 cases h
 simp only [seval,FMK,hb10,hb11,hb12]
 refine .ite (fun hb13=>?_) (fun hb13=>?_)
 refine .region fun e h=>?_
 simp only [seval,EMK,fld_34_0,sz_24,und_24,(eq_of_beq hb13),sz_23,ag_23,zero_23,hb10,hb11,hb12,hb13]
 cases h
 simp only [seval,FMK,hb10,hb11,hb12,hb13]
 refine .ite (fun hb14=>?_) (fun hb14=>?_)
 refine .region fun e h=>?_
 simp only [seval,EMK,fld_34_0,sz_24,und_24,(eq_of_beq hb14),sz_23,ag_23,zero_23,hb10,hb11,hb12,hb13,hb14]
 cases h
 simp only [seval,FMK,hb10,hb11,hb12,hb13,hb14]
 have hz15 : y2.1 = 5 := by have h0 := of_decide_eq_true qi9; have h1 := ne_of_beq_false hb10; have h2 := ne_of_beq_false hb11; have h3 := ne_of_beq_false hb12; have h4 := ne_of_beq_false hb13; have h5 := ne_of_beq_false hb14; omega
 refine .region fun e h=>?_
 simp only [seval,EMK,fld_34_0,sz_24,und_24,hz15,sz_23,ag_23,zero_23,hb10,hb11,hb12,hb13,hb14]
 cases h
 simp only [seval,FMK,hb10,hb11,hb12,hb13,hb14]
 intro v1
 refine Mir.toK (.sR fun e h=>?_)
 simp only [seval,EMK,fld_23_2,sz_2,ag_2]
 refine mU e (.sR fun e h=>?_) h
 simp only [seval,EMK,ag_23,sz_23]
 refine mU e (.ret fun e h=>?_) h
 cases h
 simp only [seval,FMK,Tryz.results35,ag_23,sz_23]
def tb_moved (a0 : ApiPos) (a1 : ApiPos) (a2 : Int) : Option (ApiPos × Int) := bindO (tb_far a0) fun (y1 : Bool)=>if y1 = true then some (ApiPos.mk 0 0 0,11) else bindO (tb_far (ApiPos.mk (IntKind.i64.wrap (a0.X + (IntKind.i64.wrap (a2 * a1.X)))) (IntKind.i64.wrap (a0.Y + (IntKind.i64.wrap (a2 * a1.Y)))) (IntKind.i64.wrap (a0.Z + (IntKind.i64.wrap (a2 * a1.Z)))))) fun (y2 : Bool)=>if y2 = true then some (ApiPos.mk 0 0 0,11) else some (ApiPos.mk (IntKind.i64.wrap (a0.X + (IntKind.i64.wrap (a2 * a1.X)))) (IntKind.i64.wrap (a0.Y + (IntKind.i64.wrap (a2 * a1.Y)))) (IntKind.i64.wrap (a0.Z + (IntKind.i64.wrap (a2 * a1.Z)))),0)
theorem tb_moved_spec {a0 : ApiPos} {a1 : ApiPos} {a2 : Int} {y : ApiPos × Int} (h : tb_moved a0 a1 a2 = some y) : Spec gP 36 [.agg [.d (.int .i64 a0.X),.d (.int .i64 a0.Y),.d (.int .i64 a0.Z)],.agg [.d (.int .i64 a1.X),.d (.int .i64 a1.Y),.d (.int .i64 a1.Z)],.d (.int .i64 a2)] (.tuple [.agg [.d (.int .i64 y.1.X),.d (.int .i64 y.1.Y),.d (.int .i64 y.1.Z)],.d (.int .i64 y.2)]) := by
 refine spec_mir Tryz.func36 rfl (by kernel_rfl) (by kernel_rfl) (fun y : ApiPos × Int=>.tuple [.agg [.d (.int .i64 y.1.X),.d (.int .i64 y.1.Y),.d (.int .i64 y.1.Z)],.d (.int .i64 y.2)]) ?_ h
 unfold tb_moved
 simp only [List.replicate,List.length,nS,nA,Tryz.ntmps36,SV]
 refine .sR fun e h=>?_
 simp only [seval,EMK,zero_23]
 refine mU e (.seqK (.seqK (.bind fun y1 hy1=>.region fun e h=>?_))) h
 simp only [seval,EMK,ag_23,sz_23]
 refine SpecS.by (tb_far_spec hy1) (by simp only [seval,FMK]) ?_
 simp only [seval,EMK]
 refine mU e (.cond rfl (fun hb3=>?_) (fun hb3=>?_)) h
 refine .sR fun e h=>?_
 simp only [seval,EMK,zero_23,pl_23,sz_23]
 refine mU e (.ret fun e h=>?_) h
 cases h
 simp only [seval,FMK,Tryz.results36,ag_23,sz_23]
 refine .skip (Mir.toK (.sR fun e h=>?_))
 simp only [seval,EMK,fld_23_0,sz_2,ag_2,fld_23_1,fld_23_2,zero_23,pl_23,sz_23]
 refine mU e (.seqK (.seqK (.bind fun y2 hy4=>.region fun e h=>?_))) h
 simp only [seval,EMK,ag_23,sz_23]
 refine SpecS.by (tb_far_spec hy4) (by simp only [seval,FMK]) ?_
 simp only [seval,EMK]
 refine mU e (.cond rfl (fun hb6=>?_) (fun hb6=>?_)) h
 refine .sR fun e h=>?_
 simp only [seval,EMK,zero_23,pl_23,sz_23]
 refine mU e (.ret fun e h=>?_) h
 cases h
 simp only [seval,FMK,Tryz.results36,ag_23,sz_23]
 refine .skip (Mir.toK (.sR fun e h=>?_))
 simp only [seval,EMK,ag_23,sz_23]
 refine mU e (.ret fun e h=>?_) h
 cases h
 simp only [seval,FMK,Tryz.results36,ag_23,sz_23]
def tb_Machine (a0 : TableTable) (a1 : Int) (a2 : Int) (a3 : ApiPos) : Option (ApiPos × Int) := bindO (tb_offset a0 a1 a2) fun (y1 : ApiPos × Int)=>if (y1.2 != 0) = true then some (ApiPos.mk 0 0 0,y1.2) else bindO (tb_moved a3 y1.1 1) fun (y2 : ApiPos × Int)=>some (y2.1,y2.2)
theorem tb_Machine_spec {a0 : TableTable} {a1 : Int} {a2 : Int} {a3 : ApiPos} {y : ApiPos × Int} (h : tb_Machine a0 a1 a2 a3 = some y) : Spec gP 16 [.agg [.d (.int .i64 a0.Work.e0.X),.d (.int .i64 a0.Work.e0.Y),.d (.int .i64 a0.Work.e0.Z),.d (.int .i64 a0.Work.e1.X),.d (.int .i64 a0.Work.e1.Y),.d (.int .i64 a0.Work.e1.Z),.d (.int .i64 a0.Work.e2.X),.d (.int .i64 a0.Work.e2.Y),.d (.int .i64 a0.Work.e2.Z),.d (.int .i64 a0.Work.e3.X),.d (.int .i64 a0.Work.e3.Y),.d (.int .i64 a0.Work.e3.Z),.d (.int .i64 a0.Work.e4.X),.d (.int .i64 a0.Work.e4.Y),.d (.int .i64 a0.Work.e4.Z),.d (.int .i64 a0.Work.e5.X),.d (.int .i64 a0.Work.e5.Y),.d (.int .i64 a0.Work.e5.Z),.d (.list (List.map encTableLength a0.Lengths))],.d (.int .i64 a1),.d (.int .i64 a2),.agg [.d (.int .i64 a3.X),.d (.int .i64 a3.Y),.d (.int .i64 a3.Z)]] (.tuple [.agg [.d (.int .i64 y.1.X),.d (.int .i64 y.1.Y),.d (.int .i64 y.1.Z)],.d (.int .i64 y.2)]) := by
 refine spec_mir Tryz.func16 rfl (by kernel_rfl) (by kernel_rfl) (fun y : ApiPos × Int=>.tuple [.agg [.d (.int .i64 y.1.X),.d (.int .i64 y.1.Y),.d (.int .i64 y.1.Z)],.d (.int .i64 y.2)]) ?_ h
 unfold tb_Machine
 simp only [List.replicate,List.length,nS,nA,Tryz.ntmps16,SV]
 refine .sR fun e h=>?_
 simp only [seval,EMK,zero_23]
 refine mU e (.seqK (.bind fun y1 hy1=>.region fun e h=>?_)) h
 simp only [seval,EMK,ag_34,sz_34]
 refine SpecS.by (tb_offset_spec hy1) (by simp only [seval,FMK]) ?_
 simp only [seval,EMK,zero_23,sz_23]
 refine mU e (.seqK (.sR fun e h=>?_)) h
 simp only [seval,EMK]
 refine mU e (.cond rfl (fun hb3=>?_) (fun hb3=>?_)) h
 refine .sR fun e h=>?_
 simp only [seval,EMK,zero_23,pl_23,sz_23]
 refine mU e (.ret fun e h=>?_) h
 cases h
 simp only [seval,FMK,Tryz.results16,ag_23,sz_23]
 refine .skip (Mir.toK (.seqK (.bind fun y2 hy4=>.region fun e h=>?_)))
 simp only [seval,EMK,ag_23,sz_23]
 refine SpecS.by (tb_moved_spec hy4) (by simp only [seval,FMK]) ?_
 simp only [seval,EMK,sz_23]
 refine mU e (.ret fun e h=>?_) h
 cases h
 simp only [seval,FMK,Tryz.results16,ag_23,sz_23]
def tb_Format (a0 : TableTable) : Option ((List UInt8) × Int) := bindO (tb_Valid a0) fun (y1 : Int)=>if (y1 != 0) = true then some ([],y1) else bindO (bindO (if ((a0.Work.e0.X == 0) && ((a0.Work.e0.Y == 0) && (a0.Work.e0.Z == 0))) = true then some [] else bindO (strconv_Itoa 54) fun (y2 : (List UInt8))=>guardO (okStr [119,111,114,107,32,71] y2) ( guardO (okLen (([119,111,114,107,32,71] ++ y2).length)) ( bindO (bindO (dc_Millimetres a0.Work.e0.X) fun (y3 : (List UInt8))=>guardO (okStr [32] y3) ( guardO (okLen (([119,111,114,107,32,71] ++ y2).length + ([32] ++ y3).length)) ( bindO (dc_Millimetres a0.Work.e0.Y) fun (y4 : (List UInt8))=>guardO (okStr [32] y4) ( guardO (okLen (([119,111,114,107,32,71] ++ y2 ++ ([32] ++ y3)).length + ([32] ++ y4).length)) ( bindO (dc_Millimetres a0.Work.e0.Z) fun (y5 : (List UInt8))=>guardO (okStr [32] y5) ( guardO (okLen (([119,111,114,107,32,71] ++ y2 ++ ([32] ++ y3) ++ ([32] ++ y4)).length + ([32] ++ y5).length)) ( some ([119,111,114,107,32,71] ++ y2 ++ ([32] ++ y3) ++ ([32] ++ y4) ++ ([32] ++ y5))))))))) fun (v1 : (List UInt8))=>guardO (okLen (v1.length + 1)) ( some (v1 ++ [10]))))) fun (v2 : (List UInt8))=>bindO (if ((a0.Work.e1.X == 0) && ((a0.Work.e1.Y == 0) && (a0.Work.e1.Z == 0))) = true then some v2 else bindO (strconv_Itoa 55) fun (y6 : (List UInt8))=>guardO (okStr [119,111,114,107,32,71] y6) ( guardO (okLen (v2.length + ([119,111,114,107,32,71] ++ y6).length)) ( bindO (bindO (dc_Millimetres a0.Work.e1.X) fun (y7 : (List UInt8))=>guardO (okStr [32] y7) ( guardO (okLen ((v2 ++ ([119,111,114,107,32,71] ++ y6)).length + ([32] ++ y7).length)) ( bindO (dc_Millimetres a0.Work.e1.Y) fun (y8 : (List UInt8))=>guardO (okStr [32] y8) ( guardO (okLen ((v2 ++ ([119,111,114,107,32,71] ++ y6) ++ ([32] ++ y7)).length + ([32] ++ y8).length)) ( bindO (dc_Millimetres a0.Work.e1.Z) fun (y9 : (List UInt8))=>guardO (okStr [32] y9) ( guardO (okLen ((v2 ++ ([119,111,114,107,32,71] ++ y6) ++ ([32] ++ y7) ++ ([32] ++ y8)).length + ([32] ++ y9).length)) ( some (v2 ++ ([119,111,114,107,32,71] ++ y6) ++ ([32] ++ y7) ++ ([32] ++ y8) ++ ([32] ++ y9))))))))) fun (v3 : (List UInt8))=>guardO (okLen (v3.length + 1)) ( some (v3 ++ [10]))))) fun (v4 : (List UInt8))=>bindO (if ((a0.Work.e2.X == 0) && ((a0.Work.e2.Y == 0) && (a0.Work.e2.Z == 0))) = true then some v4 else bindO (strconv_Itoa 56) fun (y10 : (List UInt8))=>guardO (okStr [119,111,114,107,32,71] y10) ( guardO (okLen (v4.length + ([119,111,114,107,32,71] ++ y10).length)) ( bindO (bindO (dc_Millimetres a0.Work.e2.X) fun (y11 : (List UInt8))=>guardO (okStr [32] y11) ( guardO (okLen ((v4 ++ ([119,111,114,107,32,71] ++ y10)).length + ([32] ++ y11).length)) ( bindO (dc_Millimetres a0.Work.e2.Y) fun (y12 : (List UInt8))=>guardO (okStr [32] y12) ( guardO (okLen ((v4 ++ ([119,111,114,107,32,71] ++ y10) ++ ([32] ++ y11)).length + ([32] ++ y12).length)) ( bindO (dc_Millimetres a0.Work.e2.Z) fun (y13 : (List UInt8))=>guardO (okStr [32] y13) ( guardO (okLen ((v4 ++ ([119,111,114,107,32,71] ++ y10) ++ ([32] ++ y11) ++ ([32] ++ y12)).length + ([32] ++ y13).length)) ( some (v4 ++ ([119,111,114,107,32,71] ++ y10) ++ ([32] ++ y11) ++ ([32] ++ y12) ++ ([32] ++ y13))))))))) fun (v5 : (List UInt8))=>guardO (okLen (v5.length + 1)) ( some (v5 ++ [10]))))) fun (v6 : (List UInt8))=>bindO (if ((a0.Work.e3.X == 0) && ((a0.Work.e3.Y == 0) && (a0.Work.e3.Z == 0))) = true then some v6 else bindO (strconv_Itoa 57) fun (y14 : (List UInt8))=>guardO (okStr [119,111,114,107,32,71] y14) ( guardO (okLen (v6.length + ([119,111,114,107,32,71] ++ y14).length)) ( bindO (bindO (dc_Millimetres a0.Work.e3.X) fun (y15 : (List UInt8))=>guardO (okStr [32] y15) ( guardO (okLen ((v6 ++ ([119,111,114,107,32,71] ++ y14)).length + ([32] ++ y15).length)) ( bindO (dc_Millimetres a0.Work.e3.Y) fun (y16 : (List UInt8))=>guardO (okStr [32] y16) ( guardO (okLen ((v6 ++ ([119,111,114,107,32,71] ++ y14) ++ ([32] ++ y15)).length + ([32] ++ y16).length)) ( bindO (dc_Millimetres a0.Work.e3.Z) fun (y17 : (List UInt8))=>guardO (okStr [32] y17) ( guardO (okLen ((v6 ++ ([119,111,114,107,32,71] ++ y14) ++ ([32] ++ y15) ++ ([32] ++ y16)).length + ([32] ++ y17).length)) ( some (v6 ++ ([119,111,114,107,32,71] ++ y14) ++ ([32] ++ y15) ++ ([32] ++ y16) ++ ([32] ++ y17))))))))) fun (v7 : (List UInt8))=>guardO (okLen (v7.length + 1)) ( some (v7 ++ [10]))))) fun (v8 : (List UInt8))=>bindO (if ((a0.Work.e4.X == 0) && ((a0.Work.e4.Y == 0) && (a0.Work.e4.Z == 0))) = true then some v8 else bindO (strconv_Itoa 58) fun (y18 : (List UInt8))=>guardO (okStr [119,111,114,107,32,71] y18) ( guardO (okLen (v8.length + ([119,111,114,107,32,71] ++ y18).length)) ( bindO (bindO (dc_Millimetres a0.Work.e4.X) fun (y19 : (List UInt8))=>guardO (okStr [32] y19) ( guardO (okLen ((v8 ++ ([119,111,114,107,32,71] ++ y18)).length + ([32] ++ y19).length)) ( bindO (dc_Millimetres a0.Work.e4.Y) fun (y20 : (List UInt8))=>guardO (okStr [32] y20) ( guardO (okLen ((v8 ++ ([119,111,114,107,32,71] ++ y18) ++ ([32] ++ y19)).length + ([32] ++ y20).length)) ( bindO (dc_Millimetres a0.Work.e4.Z) fun (y21 : (List UInt8))=>guardO (okStr [32] y21) ( guardO (okLen ((v8 ++ ([119,111,114,107,32,71] ++ y18) ++ ([32] ++ y19) ++ ([32] ++ y20)).length + ([32] ++ y21).length)) ( some (v8 ++ ([119,111,114,107,32,71] ++ y18) ++ ([32] ++ y19) ++ ([32] ++ y20) ++ ([32] ++ y21))))))))) fun (v9 : (List UInt8))=>guardO (okLen (v9.length + 1)) ( some (v9 ++ [10]))))) fun (v10 : (List UInt8))=>bindO (if ((a0.Work.e5.X == 0) && ((a0.Work.e5.Y == 0) && (a0.Work.e5.Z == 0))) = true then some v10 else bindO (strconv_Itoa 59) fun (y22 : (List UInt8))=>guardO (okStr [119,111,114,107,32,71] y22) ( guardO (okLen (v10.length + ([119,111,114,107,32,71] ++ y22).length)) ( bindO (bindO (dc_Millimetres a0.Work.e5.X) fun (y23 : (List UInt8))=>guardO (okStr [32] y23) ( guardO (okLen ((v10 ++ ([119,111,114,107,32,71] ++ y22)).length + ([32] ++ y23).length)) ( bindO (dc_Millimetres a0.Work.e5.Y) fun (y24 : (List UInt8))=>guardO (okStr [32] y24) ( guardO (okLen ((v10 ++ ([119,111,114,107,32,71] ++ y22) ++ ([32] ++ y23)).length + ([32] ++ y24).length)) ( bindO (dc_Millimetres a0.Work.e5.Z) fun (y25 : (List UInt8))=>guardO (okStr [32] y25) ( guardO (okLen ((v10 ++ ([119,111,114,107,32,71] ++ y22) ++ ([32] ++ y23) ++ ([32] ++ y24)).length + ([32] ++ y25).length)) ( some (v10 ++ ([119,111,114,107,32,71] ++ y22) ++ ([32] ++ y23) ++ ([32] ++ y24) ++ ([32] ++ y25))))))))) fun (v11 : (List UInt8))=>guardO (okLen (v11.length + 1)) ( some (v11 ++ [10]))))) fun (v12 : (List UInt8))=>some v12) fun (v13 : (List UInt8))=>bindO (guardO (okIdx a0.Lengths) ( rangeX (fun (i1 : Nat) (e1 : TableLength) (v14 : (List UInt8))=>bindO (strconv_FormatInt e1.Number 10) fun (y26 : (List UInt8))=>guardO (okStr [108,101,110,103,116,104,32] y26) ( guardO (okStr ([108,101,110,103,116,104,32] ++ y26) [32]) ( bindO (dc_Millimetres e1.Length) fun (y27 : (List UInt8))=>guardO (okStr (([108,101,110,103,116,104,32] ++ y26) ++ [32]) y27) ( guardO (okStr ((([108,101,110,103,116,104,32] ++ y26) ++ [32]) ++ y27) [10]) ( guardO (okLen (v14.length + (((([108,101,110,103,116,104,32] ++ y26) ++ [32]) ++ y27) ++ [10]).length)) ( some (.go (v14 ++ (((([108,101,110,103,116,104,32] ++ y26) ++ [32]) ++ y27) ++ [10]))))))))) (fun (v14 : (List UInt8))=>some v14) a0.Lengths 0 v13)) fun (v15 : (List UInt8))=>some (v15,0)
theorem tb_Format_spec {a0 : TableTable} {y : (List UInt8) × Int} (h : tb_Format a0 = some y) : Spec gP 6 [.agg [.d (.int .i64 a0.Work.e0.X),.d (.int .i64 a0.Work.e0.Y),.d (.int .i64 a0.Work.e0.Z),.d (.int .i64 a0.Work.e1.X),.d (.int .i64 a0.Work.e1.Y),.d (.int .i64 a0.Work.e1.Z),.d (.int .i64 a0.Work.e2.X),.d (.int .i64 a0.Work.e2.Y),.d (.int .i64 a0.Work.e2.Z),.d (.int .i64 a0.Work.e3.X),.d (.int .i64 a0.Work.e3.Y),.d (.int .i64 a0.Work.e3.Z),.d (.int .i64 a0.Work.e4.X),.d (.int .i64 a0.Work.e4.Y),.d (.int .i64 a0.Work.e4.Z),.d (.int .i64 a0.Work.e5.X),.d (.int .i64 a0.Work.e5.Y),.d (.int .i64 a0.Work.e5.Z),.d (.list (List.map encTableLength a0.Lengths))]] (.tuple [.d (.str y.1),.d (.int .i64 y.2)]) := by
 refine spec_mir Tryz.func6 rfl (by kernel_rfl) (by kernel_rfl) (fun y : (List UInt8) × Int=>.tuple [.d (.str y.1),.d (.int .i64 y.2)]) ?_ h
 unfold tb_Format
 simp only [List.replicate,List.length,nS,nA,Tryz.ntmps6,SV]
 refine .sR fun e h=>?_
 simp only [seval,EMK,eInt]
 refine mU e (.seqK (.seqK (.bind fun y1 hy1=>.region fun e h=>?_))) h
 simp only [seval,EMK,ag_34,sz_34,eInt]
 refine SpecS.by (tb_Valid_spec hy1) (by simp only [seval,FMK,eInt]) ?_
 simp only [seval,EMK,eInt]
 refine mU e (.sR fun e h=>?_) h
 simp only [seval,EMK,eInt]
 refine mU e (.cond rfl (fun hb3=>?_) (fun hb3=>?_)) h
 refine .sR fun e h=>?_
 simp only [seval,EMK]
 refine mU e (.ret fun e h=>?_) h
 cases h
 simp only [seval,FMK,Tryz.results6]
 refine .skip (Mir.toK (.seqK (.regionW fun e h=>regW.alt 0 rfl ?_)))
 simp only [seval,EMK,w_none,w_eq,eInt]
 refine alt_allocB (e := 5) (zv := .agg #[.pointer none,.slice none 0 0]) rfl (by kernel_rfl) rfl (regW.of ?_)
 simp only [seval,EMK,w_none,w_eq,eInt]
 refine mU e (.seqK (.sR fun e h=>?_)) h
 simp only [seval,EMK,fld_34_0,sz_24,ag_24,eInt]
 refine mU e (Mir.joinO (fun v13 : (List UInt8)=>([U,.ptr 0 0,U,U,U,.ptr 1 0] ++ us 64)) (fun v13=>⟨[[.d (.int .i64 a0.Work.e0.X),.d (.int .i64 a0.Work.e0.Y),.d (.int .i64 a0.Work.e0.Z),.d (.int .i64 a0.Work.e1.X),.d (.int .i64 a0.Work.e1.Y),.d (.int .i64 a0.Work.e1.Z),.d (.int .i64 a0.Work.e2.X),.d (.int .i64 a0.Work.e2.Y),.d (.int .i64 a0.Work.e2.Z),.d (.int .i64 a0.Work.e3.X),.d (.int .i64 a0.Work.e3.Y),.d (.int .i64 a0.Work.e3.Z),.d (.int .i64 a0.Work.e4.X),.d (.int .i64 a0.Work.e4.Y),.d (.int .i64 a0.Work.e4.Z),.d (.int .i64 a0.Work.e5.X),.d (.int .i64 a0.Work.e5.Y),.d (.int .i64 a0.Work.e5.Z),.d (.list (List.map encTableLength a0.Lengths))],[.adr 1,.own 0 (List.map byteE v13)]],[(5,v13.length)]⟩) (fun _=>rfl) ?_ ?_) h
 refine .block (.loopR 15 (.sR fun e h=>?_))
 simp only [seval,EMK,eInt]
 refine mU e (.seqK (.condT rfl (.skip (Mir.toK (.seqK (Mir.joinO (fun v2 : (List UInt8)=>([U,.ptr 0 0,U,U,U,.ptr 1 0,U,U,U,U,U,U,U,U,U,U,U,U,.agg [.d (.int .i64 a0.Work.e0.X),.d (.int .i64 a0.Work.e0.Y),.d (.int .i64 a0.Work.e0.Z),.d (.int .i64 a0.Work.e1.X),.d (.int .i64 a0.Work.e1.Y),.d (.int .i64 a0.Work.e1.Z),.d (.int .i64 a0.Work.e2.X),.d (.int .i64 a0.Work.e2.Y),.d (.int .i64 a0.Work.e2.Z),.d (.int .i64 a0.Work.e3.X),.d (.int .i64 a0.Work.e3.Y),.d (.int .i64 a0.Work.e3.Z),.d (.int .i64 a0.Work.e4.X),.d (.int .i64 a0.Work.e4.Y),.d (.int .i64 a0.Work.e4.Z),.d (.int .i64 a0.Work.e5.X),.d (.int .i64 a0.Work.e5.Y),.d (.int .i64 a0.Work.e5.Z)],.d (.int .i64 0)] ++ us 50)) (fun v2=>⟨[[.d (.int .i64 a0.Work.e0.X),.d (.int .i64 a0.Work.e0.Y),.d (.int .i64 a0.Work.e0.Z),.d (.int .i64 a0.Work.e1.X),.d (.int .i64 a0.Work.e1.Y),.d (.int .i64 a0.Work.e1.Z),.d (.int .i64 a0.Work.e2.X),.d (.int .i64 a0.Work.e2.Y),.d (.int .i64 a0.Work.e2.Z),.d (.int .i64 a0.Work.e3.X),.d (.int .i64 a0.Work.e3.Y),.d (.int .i64 a0.Work.e3.Z),.d (.int .i64 a0.Work.e4.X),.d (.int .i64 a0.Work.e4.Y),.d (.int .i64 a0.Work.e4.Z),.d (.int .i64 a0.Work.e5.X),.d (.int .i64 a0.Work.e5.Y),.d (.int .i64 a0.Work.e5.Z),.d (.list (List.map encTableLength a0.Lengths))],[.adr 1,.own 0 (List.map byteE v2)]],[(5,v2.length)]⟩) (fun _=>rfl) ?_ ?_)))))) h
 refine .block (.sR fun e h=>?_)
 simp only [seval,EMK,und_24,sz_23,ag_23,zero_23,eInt]
 refine mU e (.seqK (.sR fun e h=>?_)) h
 simp only [seval,EMK,ag_23,sz_23,zero_23,pl_23,gE_23,eInt]
 refine mU e (.cond rfl (fun h1=>?_) (fun h1=>?_)) h
 refine .exit fun e h=>?_
 cases h
 simp only [seval,FMK,eInt,Tryz.results6]
 refine .skip (Mir.toK (.seqK (.bind fun y2 h2=>.guard fun q1=>?_)))
 replace q1 := okStr_ok q1
 try simp only [lm,xNA,xCA,xAN,xLC,xLN,xAC,xAL,nA,Nat.zero_add] at q1
 refine .guard fun q2=>.region fun e h=>?_
 simp only [seval,EMK,(nr rfl : IntKind.i64.wrap 54 = 54),eInt]
 refine SpecS.by (strconv_Itoa_spec h2) (by simp only [seval,FMK,eInt]) ?_
 simp only [seval,EMK,q1,eInt]
 refine specS_wsN (n := ([119,111,114,107,32,71] ++ y2).length) rfl (lns_at (by simp only [List.length_map,List.length_append,List.length_nil,List.length_cons,List.map_nil,List.map_cons,xOS,xON] <;> omega)) (ok2z q2 (by simp only [List.length_map,List.length_append,List.length_nil,List.length_cons,List.map_nil,List.map_cons,xOS,xON] <;> omega) rfl) (by simp only [List.length_map,List.length_append,List.length_nil,List.length_cons,List.map_nil,List.map_cons,xOS,xON] <;> omega) ?_
 simp only [seval,EMK,eInt]
 refine mU e (.seqK (.sR fun e h=>?_)) h
 simp only [seval,EMK,fld_23_0,sz_2,ag_2,fld_23_1,fld_23_2,und_61,zero_2,(oL 3),(nr rfl : ((3 : Nat) : Int) = 3),eInt]
 refine mU e (Mir.joinO (fun v1 : (List UInt8)=>([U,.ptr 0 0,U,U,U,.ptr 1 0,U,U,U,U,U,U,U,U,U,U,U,U,.agg [.d (.int .i64 a0.Work.e0.X),.d (.int .i64 a0.Work.e0.Y),.d (.int .i64 a0.Work.e0.Z),.d (.int .i64 a0.Work.e1.X),.d (.int .i64 a0.Work.e1.Y),.d (.int .i64 a0.Work.e1.Z),.d (.int .i64 a0.Work.e2.X),.d (.int .i64 a0.Work.e2.Y),.d (.int .i64 a0.Work.e2.Z),.d (.int .i64 a0.Work.e3.X),.d (.int .i64 a0.Work.e3.Y),.d (.int .i64 a0.Work.e3.Z),.d (.int .i64 a0.Work.e4.X),.d (.int .i64 a0.Work.e4.Y),.d (.int .i64 a0.Work.e4.Z),.d (.int .i64 a0.Work.e5.X),.d (.int .i64 a0.Work.e5.Y),.d (.int .i64 a0.Work.e5.Z)],.d (.int .i64 0)] ++ us 50)) (fun v1=>⟨[[.d (.int .i64 a0.Work.e0.X),.d (.int .i64 a0.Work.e0.Y),.d (.int .i64 a0.Work.e0.Z),.d (.int .i64 a0.Work.e1.X),.d (.int .i64 a0.Work.e1.Y),.d (.int .i64 a0.Work.e1.Z),.d (.int .i64 a0.Work.e2.X),.d (.int .i64 a0.Work.e2.Y),.d (.int .i64 a0.Work.e2.Z),.d (.int .i64 a0.Work.e3.X),.d (.int .i64 a0.Work.e3.Y),.d (.int .i64 a0.Work.e3.Z),.d (.int .i64 a0.Work.e4.X),.d (.int .i64 a0.Work.e4.Y),.d (.int .i64 a0.Work.e4.Z),.d (.int .i64 a0.Work.e5.X),.d (.int .i64 a0.Work.e5.Y),.d (.int .i64 a0.Work.e5.Z),.d (.list (List.map encTableLength a0.Lengths))],[.adr 1,.own 0 (List.map byteE v1)],[.d (.int .i64 a0.Work.e0.X),.d (.int .i64 a0.Work.e0.Y),.d (.int .i64 a0.Work.e0.Z)]],[(5,v1.length)]⟩) (fun _=>rfl) ?_ ?_) h
 refine .block (.loopR 15 (.sR fun e h=>?_))
 simp only [seval,EMK,eInt]
 refine mU e (.seqK (.condT rfl (.skip (Mir.toK (.seqK (.block (.sR fun e h=>?_))))))) h
 simp only [seval,EMK,und_61,sz_2,ag_2,eInt]
 refine mU e (.bind fun y3 h3=>.guard fun q3=>?_) h
 replace q3 := okStr_ok q3
 try simp only [lm,xNA,xCA,xAN,xLC,xLN,xAC,xAL,nA,Nat.zero_add] at q3
 refine .guard fun q4=>.region fun e h=>?_
 simp only [seval,EMK,eInt]
 refine SpecS.by (dc_Millimetres_spec h3) (by simp only [seval,FMK,eInt]) ?_
 simp only [seval,EMK,q3,eInt]
 refine specS_wsN (n := ([119,111,114,107,32,71] ++ y2 ++ ([32] ++ y3)).length) rfl (lns_at (by simp only [List.length_map,List.length_append,List.length_nil,List.length_cons,List.map_nil,List.map_cons,xOS,xON] <;> omega)) (ok2 q4 (by simp only [List.length_map,List.length_append,List.length_nil,List.length_cons,List.map_nil,List.map_cons,xOS,xON] <;> omega) rfl) (by simp only [List.length_map,List.length_append,List.length_nil,List.length_cons,List.map_nil,List.map_cons,xOS,xON] <;> omega) ?_
 simp only [seval,EMK,eInt]
 refine mU e (.region fun e h=>?_) h
 simp only [seval,EMK,(nr rfl : IntKind.i64.wrap 1 = 1),eInt]
 refine Mir.useN (e := e) ?_ h
 refine .sR fun e h=>?_
 simp only [seval,EMK,eInt]
 refine mU e (.seqK (.condT rfl (.skip (Mir.toK (.seqK (.block (.sR fun e h=>?_))))))) h
 simp only [seval,EMK,und_61,sz_2,ag_2,eInt]
 refine mU e (.bind fun y4 h4=>.guard fun q5=>?_) h
 replace q5 := okStr_ok q5
 try simp only [lm,xNA,xCA,xAN,xLC,xLN,xAC,xAL,nA,Nat.zero_add] at q5
 refine .guard fun q6=>.region fun e h=>?_
 simp only [seval,EMK,eInt]
 refine SpecS.by (dc_Millimetres_spec h4) (by simp only [seval,FMK,eInt]) ?_
 simp only [seval,EMK,q5,eInt]
 refine specS_wsN (n := ([119,111,114,107,32,71] ++ y2 ++ ([32] ++ y3) ++ ([32] ++ y4)).length) rfl (lns_at (by simp only [List.length_map,List.length_append,List.length_nil,List.length_cons,List.map_nil,List.map_cons,xOS,xON] <;> omega)) (ok2 q6 (by simp only [List.length_map,List.length_append,List.length_nil,List.length_cons,List.map_nil,List.map_cons,xOS,xON] <;> omega) rfl) (by simp only [List.length_map,List.length_append,List.length_nil,List.length_cons,List.map_nil,List.map_cons,xOS,xON] <;> omega) ?_
 simp only [seval,EMK,eInt]
 refine mU e (.region fun e h=>?_) h
 simp only [seval,EMK,(nr rfl : IntKind.i64.wrap 2 = 2),eInt]
 refine Mir.useN (e := e) ?_ h
 refine .sR fun e h=>?_
 simp only [seval,EMK,eInt]
 refine mU e (.seqK (.condT rfl (.skip (Mir.toK (.seqK (.block (.sR fun e h=>?_))))))) h
 simp only [seval,EMK,und_61,sz_2,ag_2,eInt]
 refine mU e (.bind fun y5 h5=>.guard fun q7=>?_) h
 replace q7 := okStr_ok q7
 try simp only [lm,xNA,xCA,xAN,xLC,xLN,xAC,xAL,nA,Nat.zero_add] at q7
 refine .guard fun q8=>.region fun e h=>?_
 simp only [seval,EMK,eInt]
 refine SpecS.by (dc_Millimetres_spec h5) (by simp only [seval,FMK,eInt]) ?_
 simp only [seval,EMK,q7,eInt]
 refine specS_wsN (n := ([119,111,114,107,32,71] ++ y2 ++ ([32] ++ y3) ++ ([32] ++ y4) ++ ([32] ++ y5)).length) rfl (lns_at (by simp only [List.length_map,List.length_append,List.length_nil,List.length_cons,List.map_nil,List.map_cons,xOS,xON] <;> omega)) (ok2 q8 (by simp only [List.length_map,List.length_append,List.length_nil,List.length_cons,List.map_nil,List.map_cons,xOS,xON] <;> omega) rfl) (by simp only [List.length_map,List.length_append,List.length_nil,List.length_cons,List.map_nil,List.map_cons,xOS,xON] <;> omega) ?_
 simp only [seval,EMK,eInt]
 refine mU e (.region fun e h=>?_) h
 simp only [seval,EMK,(nr rfl : IntKind.i64.wrap 3 = 3),eInt]
 refine Mir.useN (e := e) ?_ h
 refine .sR fun e h=>?_
 simp only [seval,EMK,eInt]
 refine mU e (.seqK (.condF rfl (.exit fun e h=>?_))) h
 cases h
 simp only [seval,FMK,eInt,Tryz.results6]
 intro v1
 refine Mir.toK (.guard fun q9=>.region fun e h=>?_)
 simp only [seval,EMK,eInt]
 refine specS_wbN (b := 10) (n := (v1 ++ [10]).length) rfl rfl (lns_at (by simp only [List.length_map,List.length_append,List.length_nil,List.length_cons,List.map_nil,List.map_cons,xOS,xON] <;> omega)) (ok2 q9 (by simp only [List.length_map,List.length_append,List.length_nil,List.length_cons,List.map_nil,List.map_cons,xOS,xON] <;> omega) rfl) (by simp only [List.length_map,List.length_append,List.length_nil,List.length_cons,List.map_nil,List.map_cons,xOS,xON] <;> omega) ?_
 simp only [seval,EMK,eInt]
 cases h
 simp only [seval,FMK,eInt,Tryz.results6]
 intro v2
 refine Mir.toK (.region fun e h=>?_)
 simp only [seval,EMK,(nr rfl : IntKind.i64.wrap 1 = 1),eInt]
 refine Mir.useN (e := e) ?_ h
 refine .sR fun e h=>?_
 simp only [seval,EMK,eInt]
 refine mU e (.seqK (.condT rfl (.skip (Mir.toK (.seqK (Mir.joinO (fun v4 : (List UInt8)=>([U,.ptr 0 0,U,U,U,.ptr 1 0,U,U,U,U,U,U,U,U,U,U,U,U,.agg [.d (.int .i64 a0.Work.e0.X),.d (.int .i64 a0.Work.e0.Y),.d (.int .i64 a0.Work.e0.Z),.d (.int .i64 a0.Work.e1.X),.d (.int .i64 a0.Work.e1.Y),.d (.int .i64 a0.Work.e1.Z),.d (.int .i64 a0.Work.e2.X),.d (.int .i64 a0.Work.e2.Y),.d (.int .i64 a0.Work.e2.Z),.d (.int .i64 a0.Work.e3.X),.d (.int .i64 a0.Work.e3.Y),.d (.int .i64 a0.Work.e3.Z),.d (.int .i64 a0.Work.e4.X),.d (.int .i64 a0.Work.e4.Y),.d (.int .i64 a0.Work.e4.Z),.d (.int .i64 a0.Work.e5.X),.d (.int .i64 a0.Work.e5.Y),.d (.int .i64 a0.Work.e5.Z)],.d (.int .i64 1)] ++ us 50)) (fun v4=>⟨[[.d (.int .i64 a0.Work.e0.X),.d (.int .i64 a0.Work.e0.Y),.d (.int .i64 a0.Work.e0.Z),.d (.int .i64 a0.Work.e1.X),.d (.int .i64 a0.Work.e1.Y),.d (.int .i64 a0.Work.e1.Z),.d (.int .i64 a0.Work.e2.X),.d (.int .i64 a0.Work.e2.Y),.d (.int .i64 a0.Work.e2.Z),.d (.int .i64 a0.Work.e3.X),.d (.int .i64 a0.Work.e3.Y),.d (.int .i64 a0.Work.e3.Z),.d (.int .i64 a0.Work.e4.X),.d (.int .i64 a0.Work.e4.Y),.d (.int .i64 a0.Work.e4.Z),.d (.int .i64 a0.Work.e5.X),.d (.int .i64 a0.Work.e5.Y),.d (.int .i64 a0.Work.e5.Z),.d (.list (List.map encTableLength a0.Lengths))],[.adr 1,.own 0 (List.map byteE v4)]],[(5,v4.length)]⟩) (fun _=>rfl) ?_ ?_)))))) h
 refine .block (.sR fun e h=>?_)
 simp only [seval,EMK,und_24,sz_23,ag_23,zero_23,eInt]
 refine mU e (.seqK (.sR fun e h=>?_)) h
 simp only [seval,EMK,ag_23,sz_23,zero_23,pl_23,gE_23,eInt]
 refine mU e (.cond rfl (fun h6=>?_) (fun h6=>?_)) h
 refine .exit fun e h=>?_
 cases h
 simp only [seval,FMK,eInt,Tryz.results6]
 refine .skip (Mir.toK (.seqK (.bind fun y6 h7=>.guard fun q10=>?_)))
 replace q10 := okStr_ok q10
 try simp only [lm,xNA,xCA,xAN,xLC,xLN,xAC,xAL,nA,Nat.zero_add] at q10
 refine .guard fun q11=>.region fun e h=>?_
 simp only [seval,EMK,(nr rfl : IntKind.i64.wrap 55 = 55),eInt]
 refine SpecS.by (strconv_Itoa_spec h7) (by simp only [seval,FMK,eInt]) ?_
 simp only [seval,EMK,q10,eInt]
 refine specS_wsN (n := (v2 ++ ([119,111,114,107,32,71] ++ y6)).length) rfl (lns_at (by simp only [List.length_map,List.length_append,List.length_nil,List.length_cons,List.map_nil,List.map_cons,xOS,xON] <;> omega)) (ok2 q11 (by simp only [List.length_map,List.length_append,List.length_nil,List.length_cons,List.map_nil,List.map_cons,xOS,xON] <;> omega) rfl) (by simp only [List.length_map,List.length_append,List.length_nil,List.length_cons,List.map_nil,List.map_cons,xOS,xON] <;> omega) ?_
 simp only [seval,EMK,eInt]
 refine mU e (.seqK (.sR fun e h=>?_)) h
 simp only [seval,EMK,fld_23_0,sz_2,ag_2,fld_23_1,fld_23_2,und_61,zero_2,(oL 3),(nr rfl : ((3 : Nat) : Int) = 3),eInt]
 refine mU e (Mir.joinO (fun v3 : (List UInt8)=>([U,.ptr 0 0,U,U,U,.ptr 1 0,U,U,U,U,U,U,U,U,U,U,U,U,.agg [.d (.int .i64 a0.Work.e0.X),.d (.int .i64 a0.Work.e0.Y),.d (.int .i64 a0.Work.e0.Z),.d (.int .i64 a0.Work.e1.X),.d (.int .i64 a0.Work.e1.Y),.d (.int .i64 a0.Work.e1.Z),.d (.int .i64 a0.Work.e2.X),.d (.int .i64 a0.Work.e2.Y),.d (.int .i64 a0.Work.e2.Z),.d (.int .i64 a0.Work.e3.X),.d (.int .i64 a0.Work.e3.Y),.d (.int .i64 a0.Work.e3.Z),.d (.int .i64 a0.Work.e4.X),.d (.int .i64 a0.Work.e4.Y),.d (.int .i64 a0.Work.e4.Z),.d (.int .i64 a0.Work.e5.X),.d (.int .i64 a0.Work.e5.Y),.d (.int .i64 a0.Work.e5.Z)],.d (.int .i64 1)] ++ us 50)) (fun v3=>⟨[[.d (.int .i64 a0.Work.e0.X),.d (.int .i64 a0.Work.e0.Y),.d (.int .i64 a0.Work.e0.Z),.d (.int .i64 a0.Work.e1.X),.d (.int .i64 a0.Work.e1.Y),.d (.int .i64 a0.Work.e1.Z),.d (.int .i64 a0.Work.e2.X),.d (.int .i64 a0.Work.e2.Y),.d (.int .i64 a0.Work.e2.Z),.d (.int .i64 a0.Work.e3.X),.d (.int .i64 a0.Work.e3.Y),.d (.int .i64 a0.Work.e3.Z),.d (.int .i64 a0.Work.e4.X),.d (.int .i64 a0.Work.e4.Y),.d (.int .i64 a0.Work.e4.Z),.d (.int .i64 a0.Work.e5.X),.d (.int .i64 a0.Work.e5.Y),.d (.int .i64 a0.Work.e5.Z),.d (.list (List.map encTableLength a0.Lengths))],[.adr 1,.own 0 (List.map byteE v3)],[.d (.int .i64 a0.Work.e1.X),.d (.int .i64 a0.Work.e1.Y),.d (.int .i64 a0.Work.e1.Z)]],[(5,v3.length)]⟩) (fun _=>rfl) ?_ ?_) h
 refine .block (.loopR 15 (.sR fun e h=>?_))
 simp only [seval,EMK,eInt]
 refine mU e (.seqK (.condT rfl (.skip (Mir.toK (.seqK (.block (.sR fun e h=>?_))))))) h
 simp only [seval,EMK,und_61,sz_2,ag_2,eInt]
 refine mU e (.bind fun y7 h8=>.guard fun q12=>?_) h
 replace q12 := okStr_ok q12
 try simp only [lm,xNA,xCA,xAN,xLC,xLN,xAC,xAL,nA,Nat.zero_add] at q12
 refine .guard fun q13=>.region fun e h=>?_
 simp only [seval,EMK,eInt]
 refine SpecS.by (dc_Millimetres_spec h8) (by simp only [seval,FMK,eInt]) ?_
 simp only [seval,EMK,q12,eInt]
 refine specS_wsN (n := (v2 ++ ([119,111,114,107,32,71] ++ y6) ++ ([32] ++ y7)).length) rfl (lns_at (by simp only [List.length_map,List.length_append,List.length_nil,List.length_cons,List.map_nil,List.map_cons,xOS,xON] <;> omega)) (ok2 q13 (by simp only [List.length_map,List.length_append,List.length_nil,List.length_cons,List.map_nil,List.map_cons,xOS,xON] <;> omega) rfl) (by simp only [List.length_map,List.length_append,List.length_nil,List.length_cons,List.map_nil,List.map_cons,xOS,xON] <;> omega) ?_
 simp only [seval,EMK,eInt]
 refine mU e (.region fun e h=>?_) h
 simp only [seval,EMK,(nr rfl : IntKind.i64.wrap 1 = 1),eInt]
 refine Mir.useN (e := e) ?_ h
 refine .sR fun e h=>?_
 simp only [seval,EMK,eInt]
 refine mU e (.seqK (.condT rfl (.skip (Mir.toK (.seqK (.block (.sR fun e h=>?_))))))) h
 simp only [seval,EMK,und_61,sz_2,ag_2,eInt]
 refine mU e (.bind fun y8 h9=>.guard fun q14=>?_) h
 replace q14 := okStr_ok q14
 try simp only [lm,xNA,xCA,xAN,xLC,xLN,xAC,xAL,nA,Nat.zero_add] at q14
 refine .guard fun q15=>.region fun e h=>?_
 simp only [seval,EMK,eInt]
 refine SpecS.by (dc_Millimetres_spec h9) (by simp only [seval,FMK,eInt]) ?_
 simp only [seval,EMK,q14,eInt]
 refine specS_wsN (n := (v2 ++ ([119,111,114,107,32,71] ++ y6) ++ ([32] ++ y7) ++ ([32] ++ y8)).length) rfl (lns_at (by simp only [List.length_map,List.length_append,List.length_nil,List.length_cons,List.map_nil,List.map_cons,xOS,xON] <;> omega)) (ok2 q15 (by simp only [List.length_map,List.length_append,List.length_nil,List.length_cons,List.map_nil,List.map_cons,xOS,xON] <;> omega) rfl) (by simp only [List.length_map,List.length_append,List.length_nil,List.length_cons,List.map_nil,List.map_cons,xOS,xON] <;> omega) ?_
 simp only [seval,EMK,eInt]
 refine mU e (.region fun e h=>?_) h
 simp only [seval,EMK,(nr rfl : IntKind.i64.wrap 2 = 2),eInt]
 refine Mir.useN (e := e) ?_ h
 refine .sR fun e h=>?_
 simp only [seval,EMK,eInt]
 refine mU e (.seqK (.condT rfl (.skip (Mir.toK (.seqK (.block (.sR fun e h=>?_))))))) h
 simp only [seval,EMK,und_61,sz_2,ag_2,eInt]
 refine mU e (.bind fun y9 h10=>.guard fun q16=>?_) h
 replace q16 := okStr_ok q16
 try simp only [lm,xNA,xCA,xAN,xLC,xLN,xAC,xAL,nA,Nat.zero_add] at q16
 refine .guard fun q17=>.region fun e h=>?_
 simp only [seval,EMK,eInt]
 refine SpecS.by (dc_Millimetres_spec h10) (by simp only [seval,FMK,eInt]) ?_
 simp only [seval,EMK,q16,eInt]
 refine specS_wsN (n := (v2 ++ ([119,111,114,107,32,71] ++ y6) ++ ([32] ++ y7) ++ ([32] ++ y8) ++ ([32] ++ y9)).length) rfl (lns_at (by simp only [List.length_map,List.length_append,List.length_nil,List.length_cons,List.map_nil,List.map_cons,xOS,xON] <;> omega)) (ok2 q17 (by simp only [List.length_map,List.length_append,List.length_nil,List.length_cons,List.map_nil,List.map_cons,xOS,xON] <;> omega) rfl) (by simp only [List.length_map,List.length_append,List.length_nil,List.length_cons,List.map_nil,List.map_cons,xOS,xON] <;> omega) ?_
 simp only [seval,EMK,eInt]
 refine mU e (.region fun e h=>?_) h
 simp only [seval,EMK,(nr rfl : IntKind.i64.wrap 3 = 3),eInt]
 refine Mir.useN (e := e) ?_ h
 refine .sR fun e h=>?_
 simp only [seval,EMK,eInt]
 refine mU e (.seqK (.condF rfl (.exit fun e h=>?_))) h
 cases h
 simp only [seval,FMK,eInt,Tryz.results6]
 intro v3
 refine Mir.toK (.guard fun q18=>.region fun e h=>?_)
 simp only [seval,EMK,eInt]
 refine specS_wbN (b := 10) (n := (v3 ++ [10]).length) rfl rfl (lns_at (by simp only [List.length_map,List.length_append,List.length_nil,List.length_cons,List.map_nil,List.map_cons,xOS,xON] <;> omega)) (ok2 q18 (by simp only [List.length_map,List.length_append,List.length_nil,List.length_cons,List.map_nil,List.map_cons,xOS,xON] <;> omega) rfl) (by simp only [List.length_map,List.length_append,List.length_nil,List.length_cons,List.map_nil,List.map_cons,xOS,xON] <;> omega) ?_
 simp only [seval,EMK,eInt]
 cases h
 simp only [seval,FMK,eInt,Tryz.results6]
 intro v4
 refine Mir.toK (.region fun e h=>?_)
 simp only [seval,EMK,(nr rfl : IntKind.i64.wrap 2 = 2),eInt]
 refine Mir.useN (e := e) ?_ h
 refine .sR fun e h=>?_
 simp only [seval,EMK,eInt]
 refine mU e (.seqK (.condT rfl (.skip (Mir.toK (.seqK (Mir.joinO (fun v6 : (List UInt8)=>([U,.ptr 0 0,U,U,U,.ptr 1 0,U,U,U,U,U,U,U,U,U,U,U,U,.agg [.d (.int .i64 a0.Work.e0.X),.d (.int .i64 a0.Work.e0.Y),.d (.int .i64 a0.Work.e0.Z),.d (.int .i64 a0.Work.e1.X),.d (.int .i64 a0.Work.e1.Y),.d (.int .i64 a0.Work.e1.Z),.d (.int .i64 a0.Work.e2.X),.d (.int .i64 a0.Work.e2.Y),.d (.int .i64 a0.Work.e2.Z),.d (.int .i64 a0.Work.e3.X),.d (.int .i64 a0.Work.e3.Y),.d (.int .i64 a0.Work.e3.Z),.d (.int .i64 a0.Work.e4.X),.d (.int .i64 a0.Work.e4.Y),.d (.int .i64 a0.Work.e4.Z),.d (.int .i64 a0.Work.e5.X),.d (.int .i64 a0.Work.e5.Y),.d (.int .i64 a0.Work.e5.Z)],.d (.int .i64 2)] ++ us 50)) (fun v6=>⟨[[.d (.int .i64 a0.Work.e0.X),.d (.int .i64 a0.Work.e0.Y),.d (.int .i64 a0.Work.e0.Z),.d (.int .i64 a0.Work.e1.X),.d (.int .i64 a0.Work.e1.Y),.d (.int .i64 a0.Work.e1.Z),.d (.int .i64 a0.Work.e2.X),.d (.int .i64 a0.Work.e2.Y),.d (.int .i64 a0.Work.e2.Z),.d (.int .i64 a0.Work.e3.X),.d (.int .i64 a0.Work.e3.Y),.d (.int .i64 a0.Work.e3.Z),.d (.int .i64 a0.Work.e4.X),.d (.int .i64 a0.Work.e4.Y),.d (.int .i64 a0.Work.e4.Z),.d (.int .i64 a0.Work.e5.X),.d (.int .i64 a0.Work.e5.Y),.d (.int .i64 a0.Work.e5.Z),.d (.list (List.map encTableLength a0.Lengths))],[.adr 1,.own 0 (List.map byteE v6)]],[(5,v6.length)]⟩) (fun _=>rfl) ?_ ?_)))))) h
 refine .block (.sR fun e h=>?_)
 simp only [seval,EMK,und_24,sz_23,ag_23,zero_23,eInt]
 refine mU e (.seqK (.sR fun e h=>?_)) h
 simp only [seval,EMK,ag_23,sz_23,zero_23,pl_23,gE_23,eInt]
 refine mU e (.cond rfl (fun h11=>?_) (fun h11=>?_)) h
 refine .exit fun e h=>?_
 cases h
 simp only [seval,FMK,eInt,Tryz.results6]
 refine .skip (Mir.toK (.seqK (.bind fun y10 h12=>.guard fun q19=>?_)))
 replace q19 := okStr_ok q19
 try simp only [lm,xNA,xCA,xAN,xLC,xLN,xAC,xAL,nA,Nat.zero_add] at q19
 refine .guard fun q20=>.region fun e h=>?_
 simp only [seval,EMK,(nr rfl : IntKind.i64.wrap 56 = 56),eInt]
 refine SpecS.by (strconv_Itoa_spec h12) (by simp only [seval,FMK,eInt]) ?_
 simp only [seval,EMK,q19,eInt]
 refine specS_wsN (n := (v4 ++ ([119,111,114,107,32,71] ++ y10)).length) rfl (lns_at (by simp only [List.length_map,List.length_append,List.length_nil,List.length_cons,List.map_nil,List.map_cons,xOS,xON] <;> omega)) (ok2 q20 (by simp only [List.length_map,List.length_append,List.length_nil,List.length_cons,List.map_nil,List.map_cons,xOS,xON] <;> omega) rfl) (by simp only [List.length_map,List.length_append,List.length_nil,List.length_cons,List.map_nil,List.map_cons,xOS,xON] <;> omega) ?_
 simp only [seval,EMK,eInt]
 refine mU e (.seqK (.sR fun e h=>?_)) h
 simp only [seval,EMK,fld_23_0,sz_2,ag_2,fld_23_1,fld_23_2,und_61,zero_2,(oL 3),(nr rfl : ((3 : Nat) : Int) = 3),eInt]
 refine mU e (Mir.joinO (fun v5 : (List UInt8)=>([U,.ptr 0 0,U,U,U,.ptr 1 0,U,U,U,U,U,U,U,U,U,U,U,U,.agg [.d (.int .i64 a0.Work.e0.X),.d (.int .i64 a0.Work.e0.Y),.d (.int .i64 a0.Work.e0.Z),.d (.int .i64 a0.Work.e1.X),.d (.int .i64 a0.Work.e1.Y),.d (.int .i64 a0.Work.e1.Z),.d (.int .i64 a0.Work.e2.X),.d (.int .i64 a0.Work.e2.Y),.d (.int .i64 a0.Work.e2.Z),.d (.int .i64 a0.Work.e3.X),.d (.int .i64 a0.Work.e3.Y),.d (.int .i64 a0.Work.e3.Z),.d (.int .i64 a0.Work.e4.X),.d (.int .i64 a0.Work.e4.Y),.d (.int .i64 a0.Work.e4.Z),.d (.int .i64 a0.Work.e5.X),.d (.int .i64 a0.Work.e5.Y),.d (.int .i64 a0.Work.e5.Z)],.d (.int .i64 2)] ++ us 50)) (fun v5=>⟨[[.d (.int .i64 a0.Work.e0.X),.d (.int .i64 a0.Work.e0.Y),.d (.int .i64 a0.Work.e0.Z),.d (.int .i64 a0.Work.e1.X),.d (.int .i64 a0.Work.e1.Y),.d (.int .i64 a0.Work.e1.Z),.d (.int .i64 a0.Work.e2.X),.d (.int .i64 a0.Work.e2.Y),.d (.int .i64 a0.Work.e2.Z),.d (.int .i64 a0.Work.e3.X),.d (.int .i64 a0.Work.e3.Y),.d (.int .i64 a0.Work.e3.Z),.d (.int .i64 a0.Work.e4.X),.d (.int .i64 a0.Work.e4.Y),.d (.int .i64 a0.Work.e4.Z),.d (.int .i64 a0.Work.e5.X),.d (.int .i64 a0.Work.e5.Y),.d (.int .i64 a0.Work.e5.Z),.d (.list (List.map encTableLength a0.Lengths))],[.adr 1,.own 0 (List.map byteE v5)],[.d (.int .i64 a0.Work.e2.X),.d (.int .i64 a0.Work.e2.Y),.d (.int .i64 a0.Work.e2.Z)]],[(5,v5.length)]⟩) (fun _=>rfl) ?_ ?_) h
 refine .block (.loopR 15 (.sR fun e h=>?_))
 simp only [seval,EMK,eInt]
 refine mU e (.seqK (.condT rfl (.skip (Mir.toK (.seqK (.block (.sR fun e h=>?_))))))) h
 simp only [seval,EMK,und_61,sz_2,ag_2,eInt]
 refine mU e (.bind fun y11 h13=>.guard fun q21=>?_) h
 replace q21 := okStr_ok q21
 try simp only [lm,xNA,xCA,xAN,xLC,xLN,xAC,xAL,nA,Nat.zero_add] at q21
 refine .guard fun q22=>.region fun e h=>?_
 simp only [seval,EMK,eInt]
 refine SpecS.by (dc_Millimetres_spec h13) (by simp only [seval,FMK,eInt]) ?_
 simp only [seval,EMK,q21,eInt]
 refine specS_wsN (n := (v4 ++ ([119,111,114,107,32,71] ++ y10) ++ ([32] ++ y11)).length) rfl (lns_at (by simp only [List.length_map,List.length_append,List.length_nil,List.length_cons,List.map_nil,List.map_cons,xOS,xON] <;> omega)) (ok2 q22 (by simp only [List.length_map,List.length_append,List.length_nil,List.length_cons,List.map_nil,List.map_cons,xOS,xON] <;> omega) rfl) (by simp only [List.length_map,List.length_append,List.length_nil,List.length_cons,List.map_nil,List.map_cons,xOS,xON] <;> omega) ?_
 simp only [seval,EMK,eInt]
 refine mU e (.region fun e h=>?_) h
 simp only [seval,EMK,(nr rfl : IntKind.i64.wrap 1 = 1),eInt]
 refine Mir.useN (e := e) ?_ h
 refine .sR fun e h=>?_
 simp only [seval,EMK,eInt]
 refine mU e (.seqK (.condT rfl (.skip (Mir.toK (.seqK (.block (.sR fun e h=>?_))))))) h
 simp only [seval,EMK,und_61,sz_2,ag_2,eInt]
 refine mU e (.bind fun y12 h14=>.guard fun q23=>?_) h
 replace q23 := okStr_ok q23
 try simp only [lm,xNA,xCA,xAN,xLC,xLN,xAC,xAL,nA,Nat.zero_add] at q23
 refine .guard fun q24=>.region fun e h=>?_
 simp only [seval,EMK,eInt]
 refine SpecS.by (dc_Millimetres_spec h14) (by simp only [seval,FMK,eInt]) ?_
 simp only [seval,EMK,q23,eInt]
 refine specS_wsN (n := (v4 ++ ([119,111,114,107,32,71] ++ y10) ++ ([32] ++ y11) ++ ([32] ++ y12)).length) rfl (lns_at (by simp only [List.length_map,List.length_append,List.length_nil,List.length_cons,List.map_nil,List.map_cons,xOS,xON] <;> omega)) (ok2 q24 (by simp only [List.length_map,List.length_append,List.length_nil,List.length_cons,List.map_nil,List.map_cons,xOS,xON] <;> omega) rfl) (by simp only [List.length_map,List.length_append,List.length_nil,List.length_cons,List.map_nil,List.map_cons,xOS,xON] <;> omega) ?_
 simp only [seval,EMK,eInt]
 refine mU e (.region fun e h=>?_) h
 simp only [seval,EMK,(nr rfl : IntKind.i64.wrap 2 = 2),eInt]
 refine Mir.useN (e := e) ?_ h
 refine .sR fun e h=>?_
 simp only [seval,EMK,eInt]
 refine mU e (.seqK (.condT rfl (.skip (Mir.toK (.seqK (.block (.sR fun e h=>?_))))))) h
 simp only [seval,EMK,und_61,sz_2,ag_2,eInt]
 refine mU e (.bind fun y13 h15=>.guard fun q25=>?_) h
 replace q25 := okStr_ok q25
 try simp only [lm,xNA,xCA,xAN,xLC,xLN,xAC,xAL,nA,Nat.zero_add] at q25
 refine .guard fun q26=>.region fun e h=>?_
 simp only [seval,EMK,eInt]
 refine SpecS.by (dc_Millimetres_spec h15) (by simp only [seval,FMK,eInt]) ?_
 simp only [seval,EMK,q25,eInt]
 refine specS_wsN (n := (v4 ++ ([119,111,114,107,32,71] ++ y10) ++ ([32] ++ y11) ++ ([32] ++ y12) ++ ([32] ++ y13)).length) rfl (lns_at (by simp only [List.length_map,List.length_append,List.length_nil,List.length_cons,List.map_nil,List.map_cons,xOS,xON] <;> omega)) (ok2 q26 (by simp only [List.length_map,List.length_append,List.length_nil,List.length_cons,List.map_nil,List.map_cons,xOS,xON] <;> omega) rfl) (by simp only [List.length_map,List.length_append,List.length_nil,List.length_cons,List.map_nil,List.map_cons,xOS,xON] <;> omega) ?_
 simp only [seval,EMK,eInt]
 refine mU e (.region fun e h=>?_) h
 simp only [seval,EMK,(nr rfl : IntKind.i64.wrap 3 = 3),eInt]
 refine Mir.useN (e := e) ?_ h
 refine .sR fun e h=>?_
 simp only [seval,EMK,eInt]
 refine mU e (.seqK (.condF rfl (.exit fun e h=>?_))) h
 cases h
 simp only [seval,FMK,eInt,Tryz.results6]
 intro v5
 refine Mir.toK (.guard fun q27=>.region fun e h=>?_)
 simp only [seval,EMK,eInt]
 refine specS_wbN (b := 10) (n := (v5 ++ [10]).length) rfl rfl (lns_at (by simp only [List.length_map,List.length_append,List.length_nil,List.length_cons,List.map_nil,List.map_cons,xOS,xON] <;> omega)) (ok2 q27 (by simp only [List.length_map,List.length_append,List.length_nil,List.length_cons,List.map_nil,List.map_cons,xOS,xON] <;> omega) rfl) (by simp only [List.length_map,List.length_append,List.length_nil,List.length_cons,List.map_nil,List.map_cons,xOS,xON] <;> omega) ?_
 simp only [seval,EMK,eInt]
 cases h
 simp only [seval,FMK,eInt,Tryz.results6]
 intro v6
 refine Mir.toK (.region fun e h=>?_)
 simp only [seval,EMK,(nr rfl : IntKind.i64.wrap 3 = 3),eInt]
 refine Mir.useN (e := e) ?_ h
 refine .sR fun e h=>?_
 simp only [seval,EMK,eInt]
 refine mU e (.seqK (.condT rfl (.skip (Mir.toK (.seqK (Mir.joinO (fun v8 : (List UInt8)=>([U,.ptr 0 0,U,U,U,.ptr 1 0,U,U,U,U,U,U,U,U,U,U,U,U,.agg [.d (.int .i64 a0.Work.e0.X),.d (.int .i64 a0.Work.e0.Y),.d (.int .i64 a0.Work.e0.Z),.d (.int .i64 a0.Work.e1.X),.d (.int .i64 a0.Work.e1.Y),.d (.int .i64 a0.Work.e1.Z),.d (.int .i64 a0.Work.e2.X),.d (.int .i64 a0.Work.e2.Y),.d (.int .i64 a0.Work.e2.Z),.d (.int .i64 a0.Work.e3.X),.d (.int .i64 a0.Work.e3.Y),.d (.int .i64 a0.Work.e3.Z),.d (.int .i64 a0.Work.e4.X),.d (.int .i64 a0.Work.e4.Y),.d (.int .i64 a0.Work.e4.Z),.d (.int .i64 a0.Work.e5.X),.d (.int .i64 a0.Work.e5.Y),.d (.int .i64 a0.Work.e5.Z)],.d (.int .i64 3)] ++ us 50)) (fun v8=>⟨[[.d (.int .i64 a0.Work.e0.X),.d (.int .i64 a0.Work.e0.Y),.d (.int .i64 a0.Work.e0.Z),.d (.int .i64 a0.Work.e1.X),.d (.int .i64 a0.Work.e1.Y),.d (.int .i64 a0.Work.e1.Z),.d (.int .i64 a0.Work.e2.X),.d (.int .i64 a0.Work.e2.Y),.d (.int .i64 a0.Work.e2.Z),.d (.int .i64 a0.Work.e3.X),.d (.int .i64 a0.Work.e3.Y),.d (.int .i64 a0.Work.e3.Z),.d (.int .i64 a0.Work.e4.X),.d (.int .i64 a0.Work.e4.Y),.d (.int .i64 a0.Work.e4.Z),.d (.int .i64 a0.Work.e5.X),.d (.int .i64 a0.Work.e5.Y),.d (.int .i64 a0.Work.e5.Z),.d (.list (List.map encTableLength a0.Lengths))],[.adr 1,.own 0 (List.map byteE v8)]],[(5,v8.length)]⟩) (fun _=>rfl) ?_ ?_)))))) h
 refine .block (.sR fun e h=>?_)
 simp only [seval,EMK,und_24,sz_23,ag_23,zero_23,eInt]
 refine mU e (.seqK (.sR fun e h=>?_)) h
 simp only [seval,EMK,ag_23,sz_23,zero_23,pl_23,gE_23,eInt]
 refine mU e (.cond rfl (fun h16=>?_) (fun h16=>?_)) h
 refine .exit fun e h=>?_
 cases h
 simp only [seval,FMK,eInt,Tryz.results6]
 refine .skip (Mir.toK (.seqK (.bind fun y14 h17=>.guard fun q28=>?_)))
 replace q28 := okStr_ok q28
 try simp only [lm,xNA,xCA,xAN,xLC,xLN,xAC,xAL,nA,Nat.zero_add] at q28
 refine .guard fun q29=>.region fun e h=>?_
 simp only [seval,EMK,(nr rfl : IntKind.i64.wrap 57 = 57),eInt]
 refine SpecS.by (strconv_Itoa_spec h17) (by simp only [seval,FMK,eInt]) ?_
 simp only [seval,EMK,q28,eInt]
 refine specS_wsN (n := (v6 ++ ([119,111,114,107,32,71] ++ y14)).length) rfl (lns_at (by simp only [List.length_map,List.length_append,List.length_nil,List.length_cons,List.map_nil,List.map_cons,xOS,xON] <;> omega)) (ok2 q29 (by simp only [List.length_map,List.length_append,List.length_nil,List.length_cons,List.map_nil,List.map_cons,xOS,xON] <;> omega) rfl) (by simp only [List.length_map,List.length_append,List.length_nil,List.length_cons,List.map_nil,List.map_cons,xOS,xON] <;> omega) ?_
 simp only [seval,EMK,eInt]
 refine mU e (.seqK (.sR fun e h=>?_)) h
 simp only [seval,EMK,fld_23_0,sz_2,ag_2,fld_23_1,fld_23_2,und_61,zero_2,(oL 3),(nr rfl : ((3 : Nat) : Int) = 3),eInt]
 refine mU e (Mir.joinO (fun v7 : (List UInt8)=>([U,.ptr 0 0,U,U,U,.ptr 1 0,U,U,U,U,U,U,U,U,U,U,U,U,.agg [.d (.int .i64 a0.Work.e0.X),.d (.int .i64 a0.Work.e0.Y),.d (.int .i64 a0.Work.e0.Z),.d (.int .i64 a0.Work.e1.X),.d (.int .i64 a0.Work.e1.Y),.d (.int .i64 a0.Work.e1.Z),.d (.int .i64 a0.Work.e2.X),.d (.int .i64 a0.Work.e2.Y),.d (.int .i64 a0.Work.e2.Z),.d (.int .i64 a0.Work.e3.X),.d (.int .i64 a0.Work.e3.Y),.d (.int .i64 a0.Work.e3.Z),.d (.int .i64 a0.Work.e4.X),.d (.int .i64 a0.Work.e4.Y),.d (.int .i64 a0.Work.e4.Z),.d (.int .i64 a0.Work.e5.X),.d (.int .i64 a0.Work.e5.Y),.d (.int .i64 a0.Work.e5.Z)],.d (.int .i64 3)] ++ us 50)) (fun v7=>⟨[[.d (.int .i64 a0.Work.e0.X),.d (.int .i64 a0.Work.e0.Y),.d (.int .i64 a0.Work.e0.Z),.d (.int .i64 a0.Work.e1.X),.d (.int .i64 a0.Work.e1.Y),.d (.int .i64 a0.Work.e1.Z),.d (.int .i64 a0.Work.e2.X),.d (.int .i64 a0.Work.e2.Y),.d (.int .i64 a0.Work.e2.Z),.d (.int .i64 a0.Work.e3.X),.d (.int .i64 a0.Work.e3.Y),.d (.int .i64 a0.Work.e3.Z),.d (.int .i64 a0.Work.e4.X),.d (.int .i64 a0.Work.e4.Y),.d (.int .i64 a0.Work.e4.Z),.d (.int .i64 a0.Work.e5.X),.d (.int .i64 a0.Work.e5.Y),.d (.int .i64 a0.Work.e5.Z),.d (.list (List.map encTableLength a0.Lengths))],[.adr 1,.own 0 (List.map byteE v7)],[.d (.int .i64 a0.Work.e3.X),.d (.int .i64 a0.Work.e3.Y),.d (.int .i64 a0.Work.e3.Z)]],[(5,v7.length)]⟩) (fun _=>rfl) ?_ ?_) h
 refine .block (.loopR 15 (.sR fun e h=>?_))
 simp only [seval,EMK,eInt]
 refine mU e (.seqK (.condT rfl (.skip (Mir.toK (.seqK (.block (.sR fun e h=>?_))))))) h
 simp only [seval,EMK,und_61,sz_2,ag_2,eInt]
 refine mU e (.bind fun y15 h18=>.guard fun q30=>?_) h
 replace q30 := okStr_ok q30
 try simp only [lm,xNA,xCA,xAN,xLC,xLN,xAC,xAL,nA,Nat.zero_add] at q30
 refine .guard fun q31=>.region fun e h=>?_
 simp only [seval,EMK,eInt]
 refine SpecS.by (dc_Millimetres_spec h18) (by simp only [seval,FMK,eInt]) ?_
 simp only [seval,EMK,q30,eInt]
 refine specS_wsN (n := (v6 ++ ([119,111,114,107,32,71] ++ y14) ++ ([32] ++ y15)).length) rfl (lns_at (by simp only [List.length_map,List.length_append,List.length_nil,List.length_cons,List.map_nil,List.map_cons,xOS,xON] <;> omega)) (ok2 q31 (by simp only [List.length_map,List.length_append,List.length_nil,List.length_cons,List.map_nil,List.map_cons,xOS,xON] <;> omega) rfl) (by simp only [List.length_map,List.length_append,List.length_nil,List.length_cons,List.map_nil,List.map_cons,xOS,xON] <;> omega) ?_
 simp only [seval,EMK,eInt]
 refine mU e (.region fun e h=>?_) h
 simp only [seval,EMK,(nr rfl : IntKind.i64.wrap 1 = 1),eInt]
 refine Mir.useN (e := e) ?_ h
 refine .sR fun e h=>?_
 simp only [seval,EMK,eInt]
 refine mU e (.seqK (.condT rfl (.skip (Mir.toK (.seqK (.block (.sR fun e h=>?_))))))) h
 simp only [seval,EMK,und_61,sz_2,ag_2,eInt]
 refine mU e (.bind fun y16 h19=>.guard fun q32=>?_) h
 replace q32 := okStr_ok q32
 try simp only [lm,xNA,xCA,xAN,xLC,xLN,xAC,xAL,nA,Nat.zero_add] at q32
 refine .guard fun q33=>.region fun e h=>?_
 simp only [seval,EMK,eInt]
 refine SpecS.by (dc_Millimetres_spec h19) (by simp only [seval,FMK,eInt]) ?_
 simp only [seval,EMK,q32,eInt]
 refine specS_wsN (n := (v6 ++ ([119,111,114,107,32,71] ++ y14) ++ ([32] ++ y15) ++ ([32] ++ y16)).length) rfl (lns_at (by simp only [List.length_map,List.length_append,List.length_nil,List.length_cons,List.map_nil,List.map_cons,xOS,xON] <;> omega)) (ok2 q33 (by simp only [List.length_map,List.length_append,List.length_nil,List.length_cons,List.map_nil,List.map_cons,xOS,xON] <;> omega) rfl) (by simp only [List.length_map,List.length_append,List.length_nil,List.length_cons,List.map_nil,List.map_cons,xOS,xON] <;> omega) ?_
 simp only [seval,EMK,eInt]
 refine mU e (.region fun e h=>?_) h
 simp only [seval,EMK,(nr rfl : IntKind.i64.wrap 2 = 2),eInt]
 refine Mir.useN (e := e) ?_ h
 refine .sR fun e h=>?_
 simp only [seval,EMK,eInt]
 refine mU e (.seqK (.condT rfl (.skip (Mir.toK (.seqK (.block (.sR fun e h=>?_))))))) h
 simp only [seval,EMK,und_61,sz_2,ag_2,eInt]
 refine mU e (.bind fun y17 h20=>.guard fun q34=>?_) h
 replace q34 := okStr_ok q34
 try simp only [lm,xNA,xCA,xAN,xLC,xLN,xAC,xAL,nA,Nat.zero_add] at q34
 refine .guard fun q35=>.region fun e h=>?_
 simp only [seval,EMK,eInt]
 refine SpecS.by (dc_Millimetres_spec h20) (by simp only [seval,FMK,eInt]) ?_
 simp only [seval,EMK,q34,eInt]
 refine specS_wsN (n := (v6 ++ ([119,111,114,107,32,71] ++ y14) ++ ([32] ++ y15) ++ ([32] ++ y16) ++ ([32] ++ y17)).length) rfl (lns_at (by simp only [List.length_map,List.length_append,List.length_nil,List.length_cons,List.map_nil,List.map_cons,xOS,xON] <;> omega)) (ok2 q35 (by simp only [List.length_map,List.length_append,List.length_nil,List.length_cons,List.map_nil,List.map_cons,xOS,xON] <;> omega) rfl) (by simp only [List.length_map,List.length_append,List.length_nil,List.length_cons,List.map_nil,List.map_cons,xOS,xON] <;> omega) ?_
 simp only [seval,EMK,eInt]
 refine mU e (.region fun e h=>?_) h
 simp only [seval,EMK,(nr rfl : IntKind.i64.wrap 3 = 3),eInt]
 refine Mir.useN (e := e) ?_ h
 refine .sR fun e h=>?_
 simp only [seval,EMK,eInt]
 refine mU e (.seqK (.condF rfl (.exit fun e h=>?_))) h
 cases h
 simp only [seval,FMK,eInt,Tryz.results6]
 intro v7
 refine Mir.toK (.guard fun q36=>.region fun e h=>?_)
 simp only [seval,EMK,eInt]
 refine specS_wbN (b := 10) (n := (v7 ++ [10]).length) rfl rfl (lns_at (by simp only [List.length_map,List.length_append,List.length_nil,List.length_cons,List.map_nil,List.map_cons,xOS,xON] <;> omega)) (ok2 q36 (by simp only [List.length_map,List.length_append,List.length_nil,List.length_cons,List.map_nil,List.map_cons,xOS,xON] <;> omega) rfl) (by simp only [List.length_map,List.length_append,List.length_nil,List.length_cons,List.map_nil,List.map_cons,xOS,xON] <;> omega) ?_
 simp only [seval,EMK,eInt]
 cases h
 simp only [seval,FMK,eInt,Tryz.results6]
 intro v8
 refine Mir.toK (.region fun e h=>?_)
 simp only [seval,EMK,(nr rfl : IntKind.i64.wrap 4 = 4),eInt]
 refine Mir.useN (e := e) ?_ h
 refine .sR fun e h=>?_
 simp only [seval,EMK,eInt]
 refine mU e (.seqK (.condT rfl (.skip (Mir.toK (.seqK (Mir.joinO (fun v10 : (List UInt8)=>([U,.ptr 0 0,U,U,U,.ptr 1 0,U,U,U,U,U,U,U,U,U,U,U,U,.agg [.d (.int .i64 a0.Work.e0.X),.d (.int .i64 a0.Work.e0.Y),.d (.int .i64 a0.Work.e0.Z),.d (.int .i64 a0.Work.e1.X),.d (.int .i64 a0.Work.e1.Y),.d (.int .i64 a0.Work.e1.Z),.d (.int .i64 a0.Work.e2.X),.d (.int .i64 a0.Work.e2.Y),.d (.int .i64 a0.Work.e2.Z),.d (.int .i64 a0.Work.e3.X),.d (.int .i64 a0.Work.e3.Y),.d (.int .i64 a0.Work.e3.Z),.d (.int .i64 a0.Work.e4.X),.d (.int .i64 a0.Work.e4.Y),.d (.int .i64 a0.Work.e4.Z),.d (.int .i64 a0.Work.e5.X),.d (.int .i64 a0.Work.e5.Y),.d (.int .i64 a0.Work.e5.Z)],.d (.int .i64 4)] ++ us 50)) (fun v10=>⟨[[.d (.int .i64 a0.Work.e0.X),.d (.int .i64 a0.Work.e0.Y),.d (.int .i64 a0.Work.e0.Z),.d (.int .i64 a0.Work.e1.X),.d (.int .i64 a0.Work.e1.Y),.d (.int .i64 a0.Work.e1.Z),.d (.int .i64 a0.Work.e2.X),.d (.int .i64 a0.Work.e2.Y),.d (.int .i64 a0.Work.e2.Z),.d (.int .i64 a0.Work.e3.X),.d (.int .i64 a0.Work.e3.Y),.d (.int .i64 a0.Work.e3.Z),.d (.int .i64 a0.Work.e4.X),.d (.int .i64 a0.Work.e4.Y),.d (.int .i64 a0.Work.e4.Z),.d (.int .i64 a0.Work.e5.X),.d (.int .i64 a0.Work.e5.Y),.d (.int .i64 a0.Work.e5.Z),.d (.list (List.map encTableLength a0.Lengths))],[.adr 1,.own 0 (List.map byteE v10)]],[(5,v10.length)]⟩) (fun _=>rfl) ?_ ?_)))))) h
 refine .block (.sR fun e h=>?_)
 simp only [seval,EMK,und_24,sz_23,ag_23,zero_23,eInt]
 refine mU e (.seqK (.sR fun e h=>?_)) h
 simp only [seval,EMK,ag_23,sz_23,zero_23,pl_23,gE_23,eInt]
 refine mU e (.cond rfl (fun h21=>?_) (fun h21=>?_)) h
 refine .exit fun e h=>?_
 cases h
 simp only [seval,FMK,eInt,Tryz.results6]
 refine .skip (Mir.toK (.seqK (.bind fun y18 h22=>.guard fun q37=>?_)))
 replace q37 := okStr_ok q37
 try simp only [lm,xNA,xCA,xAN,xLC,xLN,xAC,xAL,nA,Nat.zero_add] at q37
 refine .guard fun q38=>.region fun e h=>?_
 simp only [seval,EMK,(nr rfl : IntKind.i64.wrap 58 = 58),eInt]
 refine SpecS.by (strconv_Itoa_spec h22) (by simp only [seval,FMK,eInt]) ?_
 simp only [seval,EMK,q37,eInt]
 refine specS_wsN (n := (v8 ++ ([119,111,114,107,32,71] ++ y18)).length) rfl (lns_at (by simp only [List.length_map,List.length_append,List.length_nil,List.length_cons,List.map_nil,List.map_cons,xOS,xON] <;> omega)) (ok2 q38 (by simp only [List.length_map,List.length_append,List.length_nil,List.length_cons,List.map_nil,List.map_cons,xOS,xON] <;> omega) rfl) (by simp only [List.length_map,List.length_append,List.length_nil,List.length_cons,List.map_nil,List.map_cons,xOS,xON] <;> omega) ?_
 simp only [seval,EMK,eInt]
 refine mU e (.seqK (.sR fun e h=>?_)) h
 simp only [seval,EMK,fld_23_0,sz_2,ag_2,fld_23_1,fld_23_2,und_61,zero_2,(oL 3),(nr rfl : ((3 : Nat) : Int) = 3),eInt]
 refine mU e (Mir.joinO (fun v9 : (List UInt8)=>([U,.ptr 0 0,U,U,U,.ptr 1 0,U,U,U,U,U,U,U,U,U,U,U,U,.agg [.d (.int .i64 a0.Work.e0.X),.d (.int .i64 a0.Work.e0.Y),.d (.int .i64 a0.Work.e0.Z),.d (.int .i64 a0.Work.e1.X),.d (.int .i64 a0.Work.e1.Y),.d (.int .i64 a0.Work.e1.Z),.d (.int .i64 a0.Work.e2.X),.d (.int .i64 a0.Work.e2.Y),.d (.int .i64 a0.Work.e2.Z),.d (.int .i64 a0.Work.e3.X),.d (.int .i64 a0.Work.e3.Y),.d (.int .i64 a0.Work.e3.Z),.d (.int .i64 a0.Work.e4.X),.d (.int .i64 a0.Work.e4.Y),.d (.int .i64 a0.Work.e4.Z),.d (.int .i64 a0.Work.e5.X),.d (.int .i64 a0.Work.e5.Y),.d (.int .i64 a0.Work.e5.Z)],.d (.int .i64 4)] ++ us 50)) (fun v9=>⟨[[.d (.int .i64 a0.Work.e0.X),.d (.int .i64 a0.Work.e0.Y),.d (.int .i64 a0.Work.e0.Z),.d (.int .i64 a0.Work.e1.X),.d (.int .i64 a0.Work.e1.Y),.d (.int .i64 a0.Work.e1.Z),.d (.int .i64 a0.Work.e2.X),.d (.int .i64 a0.Work.e2.Y),.d (.int .i64 a0.Work.e2.Z),.d (.int .i64 a0.Work.e3.X),.d (.int .i64 a0.Work.e3.Y),.d (.int .i64 a0.Work.e3.Z),.d (.int .i64 a0.Work.e4.X),.d (.int .i64 a0.Work.e4.Y),.d (.int .i64 a0.Work.e4.Z),.d (.int .i64 a0.Work.e5.X),.d (.int .i64 a0.Work.e5.Y),.d (.int .i64 a0.Work.e5.Z),.d (.list (List.map encTableLength a0.Lengths))],[.adr 1,.own 0 (List.map byteE v9)],[.d (.int .i64 a0.Work.e4.X),.d (.int .i64 a0.Work.e4.Y),.d (.int .i64 a0.Work.e4.Z)]],[(5,v9.length)]⟩) (fun _=>rfl) ?_ ?_) h
 refine .block (.loopR 15 (.sR fun e h=>?_))
 simp only [seval,EMK,eInt]
 refine mU e (.seqK (.condT rfl (.skip (Mir.toK (.seqK (.block (.sR fun e h=>?_))))))) h
 simp only [seval,EMK,und_61,sz_2,ag_2,eInt]
 refine mU e (.bind fun y19 h23=>.guard fun q39=>?_) h
 replace q39 := okStr_ok q39
 try simp only [lm,xNA,xCA,xAN,xLC,xLN,xAC,xAL,nA,Nat.zero_add] at q39
 refine .guard fun q40=>.region fun e h=>?_
 simp only [seval,EMK,eInt]
 refine SpecS.by (dc_Millimetres_spec h23) (by simp only [seval,FMK,eInt]) ?_
 simp only [seval,EMK,q39,eInt]
 refine specS_wsN (n := (v8 ++ ([119,111,114,107,32,71] ++ y18) ++ ([32] ++ y19)).length) rfl (lns_at (by simp only [List.length_map,List.length_append,List.length_nil,List.length_cons,List.map_nil,List.map_cons,xOS,xON] <;> omega)) (ok2 q40 (by simp only [List.length_map,List.length_append,List.length_nil,List.length_cons,List.map_nil,List.map_cons,xOS,xON] <;> omega) rfl) (by simp only [List.length_map,List.length_append,List.length_nil,List.length_cons,List.map_nil,List.map_cons,xOS,xON] <;> omega) ?_
 simp only [seval,EMK,eInt]
 refine mU e (.region fun e h=>?_) h
 simp only [seval,EMK,(nr rfl : IntKind.i64.wrap 1 = 1),eInt]
 refine Mir.useN (e := e) ?_ h
 refine .sR fun e h=>?_
 simp only [seval,EMK,eInt]
 refine mU e (.seqK (.condT rfl (.skip (Mir.toK (.seqK (.block (.sR fun e h=>?_))))))) h
 simp only [seval,EMK,und_61,sz_2,ag_2,eInt]
 refine mU e (.bind fun y20 h24=>.guard fun q41=>?_) h
 replace q41 := okStr_ok q41
 try simp only [lm,xNA,xCA,xAN,xLC,xLN,xAC,xAL,nA,Nat.zero_add] at q41
 refine .guard fun q42=>.region fun e h=>?_
 simp only [seval,EMK,eInt]
 refine SpecS.by (dc_Millimetres_spec h24) (by simp only [seval,FMK,eInt]) ?_
 simp only [seval,EMK,q41,eInt]
 refine specS_wsN (n := (v8 ++ ([119,111,114,107,32,71] ++ y18) ++ ([32] ++ y19) ++ ([32] ++ y20)).length) rfl (lns_at (by simp only [List.length_map,List.length_append,List.length_nil,List.length_cons,List.map_nil,List.map_cons,xOS,xON] <;> omega)) (ok2 q42 (by simp only [List.length_map,List.length_append,List.length_nil,List.length_cons,List.map_nil,List.map_cons,xOS,xON] <;> omega) rfl) (by simp only [List.length_map,List.length_append,List.length_nil,List.length_cons,List.map_nil,List.map_cons,xOS,xON] <;> omega) ?_
 simp only [seval,EMK,eInt]
 refine mU e (.region fun e h=>?_) h
 simp only [seval,EMK,(nr rfl : IntKind.i64.wrap 2 = 2),eInt]
 refine Mir.useN (e := e) ?_ h
 refine .sR fun e h=>?_
 simp only [seval,EMK,eInt]
 refine mU e (.seqK (.condT rfl (.skip (Mir.toK (.seqK (.block (.sR fun e h=>?_))))))) h
 simp only [seval,EMK,und_61,sz_2,ag_2,eInt]
 refine mU e (.bind fun y21 h25=>.guard fun q43=>?_) h
 replace q43 := okStr_ok q43
 try simp only [lm,xNA,xCA,xAN,xLC,xLN,xAC,xAL,nA,Nat.zero_add] at q43
 refine .guard fun q44=>.region fun e h=>?_
 simp only [seval,EMK,eInt]
 refine SpecS.by (dc_Millimetres_spec h25) (by simp only [seval,FMK,eInt]) ?_
 simp only [seval,EMK,q43,eInt]
 refine specS_wsN (n := (v8 ++ ([119,111,114,107,32,71] ++ y18) ++ ([32] ++ y19) ++ ([32] ++ y20) ++ ([32] ++ y21)).length) rfl (lns_at (by simp only [List.length_map,List.length_append,List.length_nil,List.length_cons,List.map_nil,List.map_cons,xOS,xON] <;> omega)) (ok2 q44 (by simp only [List.length_map,List.length_append,List.length_nil,List.length_cons,List.map_nil,List.map_cons,xOS,xON] <;> omega) rfl) (by simp only [List.length_map,List.length_append,List.length_nil,List.length_cons,List.map_nil,List.map_cons,xOS,xON] <;> omega) ?_
 simp only [seval,EMK,eInt]
 refine mU e (.region fun e h=>?_) h
 simp only [seval,EMK,(nr rfl : IntKind.i64.wrap 3 = 3),eInt]
 refine Mir.useN (e := e) ?_ h
 refine .sR fun e h=>?_
 simp only [seval,EMK,eInt]
 refine mU e (.seqK (.condF rfl (.exit fun e h=>?_))) h
 cases h
 simp only [seval,FMK,eInt,Tryz.results6]
 intro v9
 refine Mir.toK (.guard fun q45=>.region fun e h=>?_)
 simp only [seval,EMK,eInt]
 refine specS_wbN (b := 10) (n := (v9 ++ [10]).length) rfl rfl (lns_at (by simp only [List.length_map,List.length_append,List.length_nil,List.length_cons,List.map_nil,List.map_cons,xOS,xON] <;> omega)) (ok2 q45 (by simp only [List.length_map,List.length_append,List.length_nil,List.length_cons,List.map_nil,List.map_cons,xOS,xON] <;> omega) rfl) (by simp only [List.length_map,List.length_append,List.length_nil,List.length_cons,List.map_nil,List.map_cons,xOS,xON] <;> omega) ?_
 simp only [seval,EMK,eInt]
 cases h
 simp only [seval,FMK,eInt,Tryz.results6]
 intro v10
 refine Mir.toK (.region fun e h=>?_)
 simp only [seval,EMK,(nr rfl : IntKind.i64.wrap 5 = 5),eInt]
 refine Mir.useN (e := e) ?_ h
 refine .sR fun e h=>?_
 simp only [seval,EMK,eInt]
 refine mU e (.seqK (.condT rfl (.skip (Mir.toK (.seqK (Mir.joinO (fun v12 : (List UInt8)=>([U,.ptr 0 0,U,U,U,.ptr 1 0,U,U,U,U,U,U,U,U,U,U,U,U,.agg [.d (.int .i64 a0.Work.e0.X),.d (.int .i64 a0.Work.e0.Y),.d (.int .i64 a0.Work.e0.Z),.d (.int .i64 a0.Work.e1.X),.d (.int .i64 a0.Work.e1.Y),.d (.int .i64 a0.Work.e1.Z),.d (.int .i64 a0.Work.e2.X),.d (.int .i64 a0.Work.e2.Y),.d (.int .i64 a0.Work.e2.Z),.d (.int .i64 a0.Work.e3.X),.d (.int .i64 a0.Work.e3.Y),.d (.int .i64 a0.Work.e3.Z),.d (.int .i64 a0.Work.e4.X),.d (.int .i64 a0.Work.e4.Y),.d (.int .i64 a0.Work.e4.Z),.d (.int .i64 a0.Work.e5.X),.d (.int .i64 a0.Work.e5.Y),.d (.int .i64 a0.Work.e5.Z)],.d (.int .i64 5)] ++ us 50)) (fun v12=>⟨[[.d (.int .i64 a0.Work.e0.X),.d (.int .i64 a0.Work.e0.Y),.d (.int .i64 a0.Work.e0.Z),.d (.int .i64 a0.Work.e1.X),.d (.int .i64 a0.Work.e1.Y),.d (.int .i64 a0.Work.e1.Z),.d (.int .i64 a0.Work.e2.X),.d (.int .i64 a0.Work.e2.Y),.d (.int .i64 a0.Work.e2.Z),.d (.int .i64 a0.Work.e3.X),.d (.int .i64 a0.Work.e3.Y),.d (.int .i64 a0.Work.e3.Z),.d (.int .i64 a0.Work.e4.X),.d (.int .i64 a0.Work.e4.Y),.d (.int .i64 a0.Work.e4.Z),.d (.int .i64 a0.Work.e5.X),.d (.int .i64 a0.Work.e5.Y),.d (.int .i64 a0.Work.e5.Z),.d (.list (List.map encTableLength a0.Lengths))],[.adr 1,.own 0 (List.map byteE v12)]],[(5,v12.length)]⟩) (fun _=>rfl) ?_ ?_)))))) h
 refine .block (.sR fun e h=>?_)
 simp only [seval,EMK,und_24,sz_23,ag_23,zero_23,eInt]
 refine mU e (.seqK (.sR fun e h=>?_)) h
 simp only [seval,EMK,ag_23,sz_23,zero_23,pl_23,gE_23,eInt]
 refine mU e (.cond rfl (fun h26=>?_) (fun h26=>?_)) h
 refine .exit fun e h=>?_
 cases h
 simp only [seval,FMK,eInt,Tryz.results6]
 refine .skip (Mir.toK (.seqK (.bind fun y22 h27=>.guard fun q46=>?_)))
 replace q46 := okStr_ok q46
 try simp only [lm,xNA,xCA,xAN,xLC,xLN,xAC,xAL,nA,Nat.zero_add] at q46
 refine .guard fun q47=>.region fun e h=>?_
 simp only [seval,EMK,(nr rfl : IntKind.i64.wrap 59 = 59),eInt]
 refine SpecS.by (strconv_Itoa_spec h27) (by simp only [seval,FMK,eInt]) ?_
 simp only [seval,EMK,q46,eInt]
 refine specS_wsN (n := (v10 ++ ([119,111,114,107,32,71] ++ y22)).length) rfl (lns_at (by simp only [List.length_map,List.length_append,List.length_nil,List.length_cons,List.map_nil,List.map_cons,xOS,xON] <;> omega)) (ok2 q47 (by simp only [List.length_map,List.length_append,List.length_nil,List.length_cons,List.map_nil,List.map_cons,xOS,xON] <;> omega) rfl) (by simp only [List.length_map,List.length_append,List.length_nil,List.length_cons,List.map_nil,List.map_cons,xOS,xON] <;> omega) ?_
 simp only [seval,EMK,eInt]
 refine mU e (.seqK (.sR fun e h=>?_)) h
 simp only [seval,EMK,fld_23_0,sz_2,ag_2,fld_23_1,fld_23_2,und_61,zero_2,(oL 3),(nr rfl : ((3 : Nat) : Int) = 3),eInt]
 refine mU e (Mir.joinO (fun v11 : (List UInt8)=>([U,.ptr 0 0,U,U,U,.ptr 1 0,U,U,U,U,U,U,U,U,U,U,U,U,.agg [.d (.int .i64 a0.Work.e0.X),.d (.int .i64 a0.Work.e0.Y),.d (.int .i64 a0.Work.e0.Z),.d (.int .i64 a0.Work.e1.X),.d (.int .i64 a0.Work.e1.Y),.d (.int .i64 a0.Work.e1.Z),.d (.int .i64 a0.Work.e2.X),.d (.int .i64 a0.Work.e2.Y),.d (.int .i64 a0.Work.e2.Z),.d (.int .i64 a0.Work.e3.X),.d (.int .i64 a0.Work.e3.Y),.d (.int .i64 a0.Work.e3.Z),.d (.int .i64 a0.Work.e4.X),.d (.int .i64 a0.Work.e4.Y),.d (.int .i64 a0.Work.e4.Z),.d (.int .i64 a0.Work.e5.X),.d (.int .i64 a0.Work.e5.Y),.d (.int .i64 a0.Work.e5.Z)],.d (.int .i64 5)] ++ us 50)) (fun v11=>⟨[[.d (.int .i64 a0.Work.e0.X),.d (.int .i64 a0.Work.e0.Y),.d (.int .i64 a0.Work.e0.Z),.d (.int .i64 a0.Work.e1.X),.d (.int .i64 a0.Work.e1.Y),.d (.int .i64 a0.Work.e1.Z),.d (.int .i64 a0.Work.e2.X),.d (.int .i64 a0.Work.e2.Y),.d (.int .i64 a0.Work.e2.Z),.d (.int .i64 a0.Work.e3.X),.d (.int .i64 a0.Work.e3.Y),.d (.int .i64 a0.Work.e3.Z),.d (.int .i64 a0.Work.e4.X),.d (.int .i64 a0.Work.e4.Y),.d (.int .i64 a0.Work.e4.Z),.d (.int .i64 a0.Work.e5.X),.d (.int .i64 a0.Work.e5.Y),.d (.int .i64 a0.Work.e5.Z),.d (.list (List.map encTableLength a0.Lengths))],[.adr 1,.own 0 (List.map byteE v11)],[.d (.int .i64 a0.Work.e5.X),.d (.int .i64 a0.Work.e5.Y),.d (.int .i64 a0.Work.e5.Z)]],[(5,v11.length)]⟩) (fun _=>rfl) ?_ ?_) h
 refine .block (.loopR 15 (.sR fun e h=>?_))
 simp only [seval,EMK,eInt]
 refine mU e (.seqK (.condT rfl (.skip (Mir.toK (.seqK (.block (.sR fun e h=>?_))))))) h
 simp only [seval,EMK,und_61,sz_2,ag_2,eInt]
 refine mU e (.bind fun y23 h28=>.guard fun q48=>?_) h
 replace q48 := okStr_ok q48
 try simp only [lm,xNA,xCA,xAN,xLC,xLN,xAC,xAL,nA,Nat.zero_add] at q48
 refine .guard fun q49=>.region fun e h=>?_
 simp only [seval,EMK,eInt]
 refine SpecS.by (dc_Millimetres_spec h28) (by simp only [seval,FMK,eInt]) ?_
 simp only [seval,EMK,q48,eInt]
 refine specS_wsN (n := (v10 ++ ([119,111,114,107,32,71] ++ y22) ++ ([32] ++ y23)).length) rfl (lns_at (by simp only [List.length_map,List.length_append,List.length_nil,List.length_cons,List.map_nil,List.map_cons,xOS,xON] <;> omega)) (ok2 q49 (by simp only [List.length_map,List.length_append,List.length_nil,List.length_cons,List.map_nil,List.map_cons,xOS,xON] <;> omega) rfl) (by simp only [List.length_map,List.length_append,List.length_nil,List.length_cons,List.map_nil,List.map_cons,xOS,xON] <;> omega) ?_
 simp only [seval,EMK,eInt]
 refine mU e (.region fun e h=>?_) h
 simp only [seval,EMK,(nr rfl : IntKind.i64.wrap 1 = 1),eInt]
 refine Mir.useN (e := e) ?_ h
 refine .sR fun e h=>?_
 simp only [seval,EMK,eInt]
 refine mU e (.seqK (.condT rfl (.skip (Mir.toK (.seqK (.block (.sR fun e h=>?_))))))) h
 simp only [seval,EMK,und_61,sz_2,ag_2,eInt]
 refine mU e (.bind fun y24 h29=>.guard fun q50=>?_) h
 replace q50 := okStr_ok q50
 try simp only [lm,xNA,xCA,xAN,xLC,xLN,xAC,xAL,nA,Nat.zero_add] at q50
 refine .guard fun q51=>.region fun e h=>?_
 simp only [seval,EMK,eInt]
 refine SpecS.by (dc_Millimetres_spec h29) (by simp only [seval,FMK,eInt]) ?_
 simp only [seval,EMK,q50,eInt]
 refine specS_wsN (n := (v10 ++ ([119,111,114,107,32,71] ++ y22) ++ ([32] ++ y23) ++ ([32] ++ y24)).length) rfl (lns_at (by simp only [List.length_map,List.length_append,List.length_nil,List.length_cons,List.map_nil,List.map_cons,xOS,xON] <;> omega)) (ok2 q51 (by simp only [List.length_map,List.length_append,List.length_nil,List.length_cons,List.map_nil,List.map_cons,xOS,xON] <;> omega) rfl) (by simp only [List.length_map,List.length_append,List.length_nil,List.length_cons,List.map_nil,List.map_cons,xOS,xON] <;> omega) ?_
 simp only [seval,EMK,eInt]
 refine mU e (.region fun e h=>?_) h
 simp only [seval,EMK,(nr rfl : IntKind.i64.wrap 2 = 2),eInt]
 refine Mir.useN (e := e) ?_ h
 refine .sR fun e h=>?_
 simp only [seval,EMK,eInt]
 refine mU e (.seqK (.condT rfl (.skip (Mir.toK (.seqK (.block (.sR fun e h=>?_))))))) h
 simp only [seval,EMK,und_61,sz_2,ag_2,eInt]
 refine mU e (.bind fun y25 h30=>.guard fun q52=>?_) h
 replace q52 := okStr_ok q52
 try simp only [lm,xNA,xCA,xAN,xLC,xLN,xAC,xAL,nA,Nat.zero_add] at q52
 refine .guard fun q53=>.region fun e h=>?_
 simp only [seval,EMK,eInt]
 refine SpecS.by (dc_Millimetres_spec h30) (by simp only [seval,FMK,eInt]) ?_
 simp only [seval,EMK,q52,eInt]
 refine specS_wsN (n := (v10 ++ ([119,111,114,107,32,71] ++ y22) ++ ([32] ++ y23) ++ ([32] ++ y24) ++ ([32] ++ y25)).length) rfl (lns_at (by simp only [List.length_map,List.length_append,List.length_nil,List.length_cons,List.map_nil,List.map_cons,xOS,xON] <;> omega)) (ok2 q53 (by simp only [List.length_map,List.length_append,List.length_nil,List.length_cons,List.map_nil,List.map_cons,xOS,xON] <;> omega) rfl) (by simp only [List.length_map,List.length_append,List.length_nil,List.length_cons,List.map_nil,List.map_cons,xOS,xON] <;> omega) ?_
 simp only [seval,EMK,eInt]
 refine mU e (.region fun e h=>?_) h
 simp only [seval,EMK,(nr rfl : IntKind.i64.wrap 3 = 3),eInt]
 refine Mir.useN (e := e) ?_ h
 refine .sR fun e h=>?_
 simp only [seval,EMK,eInt]
 refine mU e (.seqK (.condF rfl (.exit fun e h=>?_))) h
 cases h
 simp only [seval,FMK,eInt,Tryz.results6]
 intro v11
 refine Mir.toK (.guard fun q54=>.region fun e h=>?_)
 simp only [seval,EMK,eInt]
 refine specS_wbN (b := 10) (n := (v11 ++ [10]).length) rfl rfl (lns_at (by simp only [List.length_map,List.length_append,List.length_nil,List.length_cons,List.map_nil,List.map_cons,xOS,xON] <;> omega)) (ok2 q54 (by simp only [List.length_map,List.length_append,List.length_nil,List.length_cons,List.map_nil,List.map_cons,xOS,xON] <;> omega) rfl) (by simp only [List.length_map,List.length_append,List.length_nil,List.length_cons,List.map_nil,List.map_cons,xOS,xON] <;> omega) ?_
 simp only [seval,EMK,eInt]
 cases h
 simp only [seval,FMK,eInt,Tryz.results6]
 intro v12
 refine Mir.toK (.region fun e h=>?_)
 simp only [seval,EMK,(nr rfl : IntKind.i64.wrap 6 = 6),eInt]
 refine Mir.useN (e := e) ?_ h
 refine .sR fun e h=>?_
 simp only [seval,EMK,eInt]
 refine mU e (.seqK (.condF rfl (.exit fun e h=>?_))) h
 cases h
 simp only [seval,FMK,eInt,Tryz.results6]
 intro v13
 refine Mir.toK (.seqK (.sR fun e h=>?_))
 simp only [seval,EMK,fld_34_1,sz_32,ag_32,und_32,eInt]
 refine mU e (Mir.joinO (fun v15 : (List UInt8)=>([U,U,U,U,U,.ptr 1 0] ++ us 64)) (fun v15=>⟨[[.d (.int .i64 a0.Work.e0.X),.d (.int .i64 a0.Work.e0.Y),.d (.int .i64 a0.Work.e0.Z),.d (.int .i64 a0.Work.e1.X),.d (.int .i64 a0.Work.e1.Y),.d (.int .i64 a0.Work.e1.Z),.d (.int .i64 a0.Work.e2.X),.d (.int .i64 a0.Work.e2.Y),.d (.int .i64 a0.Work.e2.Z),.d (.int .i64 a0.Work.e3.X),.d (.int .i64 a0.Work.e3.Y),.d (.int .i64 a0.Work.e3.Z),.d (.int .i64 a0.Work.e4.X),.d (.int .i64 a0.Work.e4.Y),.d (.int .i64 a0.Work.e4.Z),.d (.int .i64 a0.Work.e5.X),.d (.int .i64 a0.Work.e5.Y),.d (.int .i64 a0.Work.e5.Z),.d (.list (List.map encTableLength a0.Lengths))],[.adr 1,.own 0 (List.map byteE v15)]],[(5,v15.length)]⟩) (fun _=>rfl) ?_ ?_) h
 refine .block (.guard fun q55=>Mir.range (fun (i1 : Nat) (v14 : (List UInt8))=>([U,U,U,U,U,.ptr 1 0,U,U,U,U,U,U,U,U,U,U,U,U,U,U,U,U,U,U,U,U,U,U,U,U,U,U,U,U,U,U,U,U,U,U,U,U,U,U,U,U,U,U,U,U,U,.d (.list (List.map encTableLength a0.Lengths)),.d (.int .i64 (a0.Lengths.length : Int)),.d (.int .i64 (i1 : Int))] ++ us 16)) (fun i1 v14=>⟨[[.d (.int .i64 a0.Work.e0.X),.d (.int .i64 a0.Work.e0.Y),.d (.int .i64 a0.Work.e0.Z),.d (.int .i64 a0.Work.e1.X),.d (.int .i64 a0.Work.e1.Y),.d (.int .i64 a0.Work.e1.Z),.d (.int .i64 a0.Work.e2.X),.d (.int .i64 a0.Work.e2.Y),.d (.int .i64 a0.Work.e2.Z),.d (.int .i64 a0.Work.e3.X),.d (.int .i64 a0.Work.e3.Y),.d (.int .i64 a0.Work.e3.Z),.d (.int .i64 a0.Work.e4.X),.d (.int .i64 a0.Work.e4.Y),.d (.int .i64 a0.Work.e4.Z),.d (.int .i64 a0.Work.e5.X),.d (.int .i64 a0.Work.e5.Y),.d (.int .i64 a0.Work.e5.Z),.d (.list (List.map encTableLength a0.Lengths))],[.adr 1,.own 0 (List.map byteE v14)]],[(5,v14.length)]⟩) q55 (fun _ _=>rfl) (by simp only [seval,FMK,eInt,zNI]) (by simp only [seval,FMK,eInt,zNI]) ?_ ?_)
 intro i1 e1 v14 q56
 refine .sR fun e h=>?_
 simp only [seval,EMK,q56,eInt]
 refine mU e (.seqK (.condT rfl (.skip (Mir.toK (.seqK (.block (.sR fun e h=>?_))))))) h
 simp only [seval,EMK,und_32,sz_65,q56,Int.toNat_natCast,ag_65,zero_65,eInt]
 refine mU e (.bind fun y26 h31=>.guard fun q57=>?_) h
 replace q57 := okStr_ok q57
 try simp only [lm,xNA,xCA,xAN,xLC,xLN,xAC,xAL,nA,Nat.zero_add] at q57
 refine .guard fun q58=>?_
 replace q58 := okStr_ok q58
 try simp only [lm,xNA,xCA,xAN,xLC,xLN,xAC,xAL,nA,Nat.zero_add] at q58
 refine .bind fun y27 h32=>.guard fun q59=>?_
 replace q59 := okStr_ok q59
 try simp only [lm,xNA,xCA,xAN,xLC,xLN,xAC,xAL,nA,Nat.zero_add] at q59
 refine .guard fun q60=>?_
 replace q60 := okStr_ok q60
 try simp only [lm,xNA,xCA,xAN,xLC,xLN,xAC,xAL,nA,Nat.zero_add] at q60
 refine .guard fun q61=>.regionT 8 [] (by kernel_rfl) fun e h=>?_
 simp only [seval,EMK,w_none,w_eq,SB,fld_65_0,sz_2,ag_2,eInt]
 refine Spec.by (strconv_FormatInt_spec h31) (by simp only [seval,FMK,eInt]) ?_
 simp only [seval,EMK,w_none,w_eq,SB,q57,q58,fld_65_1,sz_2,ag_2,eInt]
 refine Spec.by (dc_Millimetres_spec h32) (by simp only [seval,FMK,eInt]) ?_
 simp only [seval,EMK,w_none,w_eq,SB,eInt]
 refine regW.of ?_
 simp only [seval,EMK,w_none,w_eq,q59,q60,eInt]
 refine specS_wsN (n := (v14 ++ (((([108,101,110,103,116,104,32] ++ y26) ++ [32]) ++ y27) ++ [10])).length) rfl (lns_at (by simp only [List.length_map,List.length_append,List.length_nil,List.length_cons,List.map_nil,List.map_cons,xOS,xON] <;> omega)) (ok2 q61 (by simp only [List.length_map,List.length_append,List.length_nil,List.length_cons,List.map_nil,List.map_cons,xOS,xON] <;> omega) rfl) (by simp only [List.length_map,List.length_append,List.length_nil,List.length_cons,List.map_nil,List.map_cons,xOS,xON] <;> omega) ?_
 simp only [seval,EMK,w_none,w_eq,eInt]
 refine mU e (.region fun e h=>?_) h
 simp only [seval,EMK,eInt]
 cases h
 simp only [seval,FMK,eInt,Tryz.results6,q56]
 intro v14 q62
 refine .sR fun e h=>?_
 simp only [seval,EMK,q62,eInt]
 refine mU e (.seqK (.condF rfl (.exit fun e h=>?_))) h
 cases h
 simp only [seval,FMK,eInt,Tryz.results6]
 intro v15
 refine Mir.toK (.sR fun e h=>?_)
 simp only [seval,EMK,eInt]
 refine specS_st rfl (lns_at (by simp only [List.length_map,List.length_append,List.length_nil,List.length_cons,List.map_nil,List.map_cons,xOS,xON] <;> omega)) ?_
 simp only [seval,EMK,eInt]
 refine mU e (.ret fun e h=>?_) h
 cases h
 simp only [seval,FMK,eInt,Tryz.results6]
def l45_awake  : Option Bool := bindO (tb_SetWork (TableTable.mk (Arr6ApiPos.mk (ApiPos.mk 0 0 0) (ApiPos.mk 0 0 0) (ApiPos.mk 0 0 0) (ApiPos.mk 0 0 0) (ApiPos.mk 0 0 0) (ApiPos.mk 0 0 0)) []) 55000 (ApiPos.mk 1000 2000 (-500))) fun (y1 : TableTable × Int)=>bindO (tb_SetLength y1.1 3 75000) fun (y2 : TableTable × Int)=>bindO (tb_Machine (TableTable.mk y2.1.Work y2.1.Lengths) 55000 3 (ApiPos.mk 0 0 0)) fun (y3 : ApiPos × Int)=>bindO (tb_Format (TableTable.mk y2.1.Work y2.1.Lengths)) fun (y4 : (List UInt8) × Int)=>some ((y1.2 == 0) && ((y2.2 == 0) && ((y3.2 == 0) && ((y4.2 == 0) && (((y3.1.X == 1000) && ((y3.1.Y == 2000) && (y3.1.Z == 74500))) && (y4.1 == [119,111,114,107,32,71,53,53,32,49,32,50,32,45,48,46,53,10,108,101,110,103,116,104,32,51,32,55,53,10]))))))
theorem l45_awake_spec  {y : Bool} (h : l45_awake = some y) : Spec gP 5 [] (.d (.bool y)) := by
 refine spec_mir Tryz.func5 rfl (by kernel_rfl) (by kernel_rfl) (fun y : Bool=>.d (.bool y)) ?_ h
 unfold l45_awake
 simp only [List.replicate,List.length,nS,nA,Tryz.ntmps5,SV]
 refine .sR fun e h=>?_
 simp only [seval,EMK]
 refine mU e (.seqK (.bind fun y1 hy1=>.region fun e h=>?_)) h
 simp only [seval,EMK,zero_34,pl_34,zero_23,pl_23]
 refine SpecS.by (tb_SetWork_spec hy1) (by simp only [seval,FMK]) ?_
 simp only [seval,EMK,zero_34,sz_34]
 refine mU e (.seqK (.bind fun y2 hy2=>.region fun e h=>?_)) h
 simp only [seval,EMK,ag_34,sz_34]
 refine SpecS.by (tb_SetLength_spec hy2) (by simp only [seval,FMK]) ?_
 simp only [seval,EMK,zero_34,sz_34]
 refine mU e (.seqK (.bind fun y3 hy3=>.region fun e h=>?_)) h
 simp only [seval,EMK,ag_34,sz_34,zero_23,pl_23]
 refine SpecS.by (tb_Machine_spec hy3) (by simp only [seval,FMK]) ?_
 simp only [seval,EMK,zero_23,sz_23]
 refine mU e (.seqK (.bind fun y4 hy4=>.region fun e h=>?_)) h
 simp only [seval,EMK,ag_34,sz_34]
 refine SpecS.by (tb_Format_spec hy4) (by simp only [seval,FMK]) ?_
 simp only [seval,EMK]
 refine mU e (.seqK (.joinV ([.d (.bool ((y1.2 == 0) && ((y2.2 == 0) && ((y3.2 == 0) && ((y4.2 == 0) && (((y3.1.X == 1000) && ((y3.1.Y == 2000) && (y3.1.Z == 74500))) && (y4.1 == [119,111,114,107,32,71,53,53,32,49,32,50,32,45,48,46,53,10,108,101,110,103,116,104,32,51,32,55,53,10])))))))] ++ us 53) ⟨[[.d (.int .i64 y1.1.Work.e0.X),.d (.int .i64 y1.1.Work.e0.Y),.d (.int .i64 y1.1.Work.e0.Z),.d (.int .i64 y1.1.Work.e1.X),.d (.int .i64 y1.1.Work.e1.Y),.d (.int .i64 y1.1.Work.e1.Z),.d (.int .i64 y1.1.Work.e2.X),.d (.int .i64 y1.1.Work.e2.Y),.d (.int .i64 y1.1.Work.e2.Z),.d (.int .i64 y1.1.Work.e3.X),.d (.int .i64 y1.1.Work.e3.Y),.d (.int .i64 y1.1.Work.e3.Z),.d (.int .i64 y1.1.Work.e4.X),.d (.int .i64 y1.1.Work.e4.Y),.d (.int .i64 y1.1.Work.e4.Z),.d (.int .i64 y1.1.Work.e5.X),.d (.int .i64 y1.1.Work.e5.Y),.d (.int .i64 y1.1.Work.e5.Z),.d (.list (List.map encTableLength y1.1.Lengths))],[.d (.int .i64 y2.1.Work.e0.X),.d (.int .i64 y2.1.Work.e0.Y),.d (.int .i64 y2.1.Work.e0.Z),.d (.int .i64 y2.1.Work.e1.X),.d (.int .i64 y2.1.Work.e1.Y),.d (.int .i64 y2.1.Work.e1.Z),.d (.int .i64 y2.1.Work.e2.X),.d (.int .i64 y2.1.Work.e2.Y),.d (.int .i64 y2.1.Work.e2.Z),.d (.int .i64 y2.1.Work.e3.X),.d (.int .i64 y2.1.Work.e3.Y),.d (.int .i64 y2.1.Work.e3.Z),.d (.int .i64 y2.1.Work.e4.X),.d (.int .i64 y2.1.Work.e4.Y),.d (.int .i64 y2.1.Work.e4.Z),.d (.int .i64 y2.1.Work.e5.X),.d (.int .i64 y2.1.Work.e5.Y),.d (.int .i64 y2.1.Work.e5.Z),.d (.list (List.map encTableLength y2.1.Lengths))],[.d (.int .i64 y3.1.X),.d (.int .i64 y3.1.Y),.d (.int .i64 y3.1.Z)]],[]⟩ rfl ?_ ?_)) h
 refine SWs.region ?_
 rcases Bool.eq_false_or_eq_true (y1.2 == 0) with hb5 | hb5
 rcases Bool.eq_false_or_eq_true (y2.2 == 0) with hb6 | hb6
 rcases Bool.eq_false_or_eq_true (y3.2 == 0) with hb7 | hb7
 rcases Bool.eq_false_or_eq_true (y4.2 == 0) with hb8 | hb8
 rcases Bool.eq_false_or_eq_true ((y3.1.X == 1000) && ((y3.1.Y == 2000) && (y3.1.Z == 74500))) with hb9 | hb9
 simp only [seval,EMK,SL,PB,ag_23,sz_23,zero_23,pl_23,gE_23,hb5,hb6,hb7,hb8,hb9]
 simp only [seval,EMK,SL,PB,ag_23,sz_23,zero_23,pl_23,gE_23,hb5,hb6,hb7,hb8,hb9]
 simp only [seval,EMK,SL,PB,hb5,hb6,hb7,hb8]
 simp only [seval,EMK,SL,PB,hb5,hb6,hb7]
 simp only [seval,EMK,SL,PB,hb5,hb6]
 simp only [seval,EMK,SL,PB,hb5]
 refine Mir.toK (.ret fun e h=>?_)
 cases h
 simp only [seval,FMK,Tryz.results5]
def l45_own (a0 : TableTable) : Option R45Table := bindO (guardO (okIdx a0.Lengths) ( rangeX (fun (i1 : Nat) (e1 : TableLength) (v1 : (List R45Length))=>guardO (okLen (v1.length + 1)) ( some (.go (v1 ++ [R45Length.mk e1.Number e1.Length])))) (fun (v1 : (List R45Length))=>some v1) a0.Lengths 0 [])) fun (v2 : (List R45Length))=>some (R45Table.mk a0.Work v2)
theorem l45_own_spec {a0 : TableTable} {y : R45Table} (h : l45_own a0 = some y) : Spec gP 11 [.agg [.d (.int .i64 a0.Work.e0.X),.d (.int .i64 a0.Work.e0.Y),.d (.int .i64 a0.Work.e0.Z),.d (.int .i64 a0.Work.e1.X),.d (.int .i64 a0.Work.e1.Y),.d (.int .i64 a0.Work.e1.Z),.d (.int .i64 a0.Work.e2.X),.d (.int .i64 a0.Work.e2.Y),.d (.int .i64 a0.Work.e2.Z),.d (.int .i64 a0.Work.e3.X),.d (.int .i64 a0.Work.e3.Y),.d (.int .i64 a0.Work.e3.Z),.d (.int .i64 a0.Work.e4.X),.d (.int .i64 a0.Work.e4.Y),.d (.int .i64 a0.Work.e4.Z),.d (.int .i64 a0.Work.e5.X),.d (.int .i64 a0.Work.e5.Y),.d (.int .i64 a0.Work.e5.Z),.d (.list (List.map encTableLength a0.Lengths))]] (.agg [.d (.int .i64 y.Work.e0.X),.d (.int .i64 y.Work.e0.Y),.d (.int .i64 y.Work.e0.Z),.d (.int .i64 y.Work.e1.X),.d (.int .i64 y.Work.e1.Y),.d (.int .i64 y.Work.e1.Z),.d (.int .i64 y.Work.e2.X),.d (.int .i64 y.Work.e2.Y),.d (.int .i64 y.Work.e2.Z),.d (.int .i64 y.Work.e3.X),.d (.int .i64 y.Work.e3.Y),.d (.int .i64 y.Work.e3.Z),.d (.int .i64 y.Work.e4.X),.d (.int .i64 y.Work.e4.Y),.d (.int .i64 y.Work.e4.Z),.d (.int .i64 y.Work.e5.X),.d (.int .i64 y.Work.e5.Y),.d (.int .i64 y.Work.e5.Z),.d (.list (List.map encR45Length y.Lengths))]) := by
 refine spec_mir Tryz.func11 rfl (by kernel_rfl) (by kernel_rfl) (fun y : R45Table=>.agg [.d (.int .i64 y.Work.e0.X),.d (.int .i64 y.Work.e0.Y),.d (.int .i64 y.Work.e0.Z),.d (.int .i64 y.Work.e1.X),.d (.int .i64 y.Work.e1.Y),.d (.int .i64 y.Work.e1.Z),.d (.int .i64 y.Work.e2.X),.d (.int .i64 y.Work.e2.Y),.d (.int .i64 y.Work.e2.Z),.d (.int .i64 y.Work.e3.X),.d (.int .i64 y.Work.e3.Y),.d (.int .i64 y.Work.e3.Z),.d (.int .i64 y.Work.e4.X),.d (.int .i64 y.Work.e4.Y),.d (.int .i64 y.Work.e4.Z),.d (.int .i64 y.Work.e5.X),.d (.int .i64 y.Work.e5.Y),.d (.int .i64 y.Work.e5.Z),.d (.list (List.map encR45Length y.Lengths))]) ?_ h
 unfold l45_own
 simp only [List.replicate,List.length,nS,nA,Tryz.ntmps11,SV]
 refine .sR fun e h=>?_
 simp only [seval,EMK,zero_27]
 refine mU e (.sR fun e h=>?_) h
 simp only [seval,EMK,fld_34_0,sz_24,ag_24,zero_27,pl_27,sz_27]
 refine mU e (.seqK (.sR fun e h=>?_)) h
 simp only [seval,EMK,fld_34_1,sz_32,ag_32,und_32]
 refine mU e (.gh [.cell 2 18 68] rfl (Mir.joinO (fun v2 : (List R45Length)=>([U,U,.ptr 1 0,.ptr 2 0] ++ us 24)) (fun v2=>⟨[[.d (.int .i64 a0.Work.e0.X),.d (.int .i64 a0.Work.e0.Y),.d (.int .i64 a0.Work.e0.Z),.d (.int .i64 a0.Work.e1.X),.d (.int .i64 a0.Work.e1.Y),.d (.int .i64 a0.Work.e1.Z),.d (.int .i64 a0.Work.e2.X),.d (.int .i64 a0.Work.e2.Y),.d (.int .i64 a0.Work.e2.Z),.d (.int .i64 a0.Work.e3.X),.d (.int .i64 a0.Work.e3.Y),.d (.int .i64 a0.Work.e3.Z),.d (.int .i64 a0.Work.e4.X),.d (.int .i64 a0.Work.e4.Y),.d (.int .i64 a0.Work.e4.Z),.d (.int .i64 a0.Work.e5.X),.d (.int .i64 a0.Work.e5.Y),.d (.int .i64 a0.Work.e5.Z),.d (.list (List.map encTableLength a0.Lengths))],[.d (.int .i64 0),.d (.int .i64 0),.d (.int .i64 0),.d (.int .i64 0),.d (.int .i64 0),.d (.int .i64 0),.d (.int .i64 0),.d (.int .i64 0),.d (.int .i64 0),.d (.int .i64 0),.d (.int .i64 0),.d (.int .i64 0),.d (.int .i64 0),.d (.int .i64 0),.d (.int .i64 0),.d (.int .i64 0),.d (.int .i64 0),.d (.int .i64 0),.nil],[.d (.int .i64 a0.Work.e0.X),.d (.int .i64 a0.Work.e0.Y),.d (.int .i64 a0.Work.e0.Z),.d (.int .i64 a0.Work.e1.X),.d (.int .i64 a0.Work.e1.Y),.d (.int .i64 a0.Work.e1.Z),.d (.int .i64 a0.Work.e2.X),.d (.int .i64 a0.Work.e2.Y),.d (.int .i64 a0.Work.e2.Z),.d (.int .i64 a0.Work.e3.X),.d (.int .i64 a0.Work.e3.Y),.d (.int .i64 a0.Work.e3.Z),.d (.int .i64 a0.Work.e4.X),.d (.int .i64 a0.Work.e4.Y),.d (.int .i64 a0.Work.e4.Z),.d (.int .i64 a0.Work.e5.X),.d (.int .i64 a0.Work.e5.Y),.d (.int .i64 a0.Work.e5.Z),.own 0 (List.map encR45Length v2)]],[(68,v2.length)]⟩) (fun _=>rfl) ?_ ?_)) h
 refine .block (.guard fun qg65=>Mir.range (fun (i1 : Nat) (v1 : (List R45Length))=>([U,U,.ptr 1 0,.ptr 2 0,U,U,U,U,U,U,.d (.list (List.map encTableLength a0.Lengths)),.d (.int .i64 (a0.Lengths.length : Int)),.d (.int .i64 (i1 : Int))] ++ us 15)) (fun i1 v1=>⟨[[.d (.int .i64 a0.Work.e0.X),.d (.int .i64 a0.Work.e0.Y),.d (.int .i64 a0.Work.e0.Z),.d (.int .i64 a0.Work.e1.X),.d (.int .i64 a0.Work.e1.Y),.d (.int .i64 a0.Work.e1.Z),.d (.int .i64 a0.Work.e2.X),.d (.int .i64 a0.Work.e2.Y),.d (.int .i64 a0.Work.e2.Z),.d (.int .i64 a0.Work.e3.X),.d (.int .i64 a0.Work.e3.Y),.d (.int .i64 a0.Work.e3.Z),.d (.int .i64 a0.Work.e4.X),.d (.int .i64 a0.Work.e4.Y),.d (.int .i64 a0.Work.e4.Z),.d (.int .i64 a0.Work.e5.X),.d (.int .i64 a0.Work.e5.Y),.d (.int .i64 a0.Work.e5.Z),.d (.list (List.map encTableLength a0.Lengths))],[.d (.int .i64 0),.d (.int .i64 0),.d (.int .i64 0),.d (.int .i64 0),.d (.int .i64 0),.d (.int .i64 0),.d (.int .i64 0),.d (.int .i64 0),.d (.int .i64 0),.d (.int .i64 0),.d (.int .i64 0),.d (.int .i64 0),.d (.int .i64 0),.d (.int .i64 0),.d (.int .i64 0),.d (.int .i64 0),.d (.int .i64 0),.d (.int .i64 0),.nil],[.d (.int .i64 a0.Work.e0.X),.d (.int .i64 a0.Work.e0.Y),.d (.int .i64 a0.Work.e0.Z),.d (.int .i64 a0.Work.e1.X),.d (.int .i64 a0.Work.e1.Y),.d (.int .i64 a0.Work.e1.Z),.d (.int .i64 a0.Work.e2.X),.d (.int .i64 a0.Work.e2.Y),.d (.int .i64 a0.Work.e2.Z),.d (.int .i64 a0.Work.e3.X),.d (.int .i64 a0.Work.e3.Y),.d (.int .i64 a0.Work.e3.Z),.d (.int .i64 a0.Work.e4.X),.d (.int .i64 a0.Work.e4.Y),.d (.int .i64 a0.Work.e4.Z),.d (.int .i64 a0.Work.e5.X),.d (.int .i64 a0.Work.e5.Y),.d (.int .i64 a0.Work.e5.Z),.own 0 (List.map encR45Length v1)]],[(68,v1.length)]⟩) qg65 (fun _ _=>rfl) (by simp only [seval,FMK,zNI]) (by simp only [seval,FMK,zNI]) ?_ ?_)
 intro i1 e1 v1 qr63
 refine .sR fun e h=>?_
 simp only [seval,EMK,qr63]
 refine mU e (.seqK (.condT rfl (.skip (Mir.toK (.seqK (.block (.sR fun e h=>?_))))))) h
 simp only [seval,EMK,und_32,sz_65,qr63,Int.toNat_natCast,ag_65,zero_65]
 refine mU e (.guard fun q67=>.region fun e h=>?_) h
 simp only [seval,EMK,fld_27_1,sz_25,ag_25,fld_65_0,sz_2,ag_2,fld_65_1,zero_68,pl_68,und_25,sz_68,(oL 2),app_25,al_R45Length,q67]
 refine mU e (.region fun e h=>?_) h
 simp only [seval,EMK]
 cases h
 simp only [seval,FMK,Tryz.results11,ag_27,sz_27,qr63]
 intro v1 qd64
 refine .sR fun e h=>?_
 simp only [seval,EMK,qd64]
 refine mU e (.seqK (.condF rfl (.exit fun e h=>?_))) h
 cases h
 simp only [seval,FMK,Tryz.results11,ag_27,sz_27]
 intro v2
 refine Mir.toK (.sR fun e h=>?_)
 simp only [seval,EMK,ag_27,sz_27]
 refine mU e (.ret fun e h=>?_) h
 cases h
 simp only [seval,FMK,Tryz.results11,ag_27,sz_27]
def l45_theirs (a0 : R45Table) : Option TableTable := bindO (guardO (okIdx a0.Lengths) ( rangeX (fun (i1 : Nat) (e1 : R45Length) (v1 : (List TableLength))=>guardO (okLen (v1.length + 1)) ( some (.go (v1 ++ [TableLength.mk e1.Number e1.Length])))) (fun (v1 : (List TableLength))=>some v1) a0.Lengths 0 [])) fun (v2 : (List TableLength))=>some (TableTable.mk a0.Work v2)
theorem l45_theirs_spec {a0 : R45Table} {y : TableTable} (h : l45_theirs a0 = some y) : Spec gP 7 [.agg [.d (.int .i64 a0.Work.e0.X),.d (.int .i64 a0.Work.e0.Y),.d (.int .i64 a0.Work.e0.Z),.d (.int .i64 a0.Work.e1.X),.d (.int .i64 a0.Work.e1.Y),.d (.int .i64 a0.Work.e1.Z),.d (.int .i64 a0.Work.e2.X),.d (.int .i64 a0.Work.e2.Y),.d (.int .i64 a0.Work.e2.Z),.d (.int .i64 a0.Work.e3.X),.d (.int .i64 a0.Work.e3.Y),.d (.int .i64 a0.Work.e3.Z),.d (.int .i64 a0.Work.e4.X),.d (.int .i64 a0.Work.e4.Y),.d (.int .i64 a0.Work.e4.Z),.d (.int .i64 a0.Work.e5.X),.d (.int .i64 a0.Work.e5.Y),.d (.int .i64 a0.Work.e5.Z),.d (.list (List.map encR45Length a0.Lengths))]] (.agg [.d (.int .i64 y.Work.e0.X),.d (.int .i64 y.Work.e0.Y),.d (.int .i64 y.Work.e0.Z),.d (.int .i64 y.Work.e1.X),.d (.int .i64 y.Work.e1.Y),.d (.int .i64 y.Work.e1.Z),.d (.int .i64 y.Work.e2.X),.d (.int .i64 y.Work.e2.Y),.d (.int .i64 y.Work.e2.Z),.d (.int .i64 y.Work.e3.X),.d (.int .i64 y.Work.e3.Y),.d (.int .i64 y.Work.e3.Z),.d (.int .i64 y.Work.e4.X),.d (.int .i64 y.Work.e4.Y),.d (.int .i64 y.Work.e4.Z),.d (.int .i64 y.Work.e5.X),.d (.int .i64 y.Work.e5.Y),.d (.int .i64 y.Work.e5.Z),.d (.list (List.map encTableLength y.Lengths))]) := by
 refine spec_mir Tryz.func7 rfl (by kernel_rfl) (by kernel_rfl) (fun y : TableTable=>.agg [.d (.int .i64 y.Work.e0.X),.d (.int .i64 y.Work.e0.Y),.d (.int .i64 y.Work.e0.Z),.d (.int .i64 y.Work.e1.X),.d (.int .i64 y.Work.e1.Y),.d (.int .i64 y.Work.e1.Z),.d (.int .i64 y.Work.e2.X),.d (.int .i64 y.Work.e2.Y),.d (.int .i64 y.Work.e2.Z),.d (.int .i64 y.Work.e3.X),.d (.int .i64 y.Work.e3.Y),.d (.int .i64 y.Work.e3.Z),.d (.int .i64 y.Work.e4.X),.d (.int .i64 y.Work.e4.Y),.d (.int .i64 y.Work.e4.Z),.d (.int .i64 y.Work.e5.X),.d (.int .i64 y.Work.e5.Y),.d (.int .i64 y.Work.e5.Z),.d (.list (List.map encTableLength y.Lengths))]) ?_ h
 unfold l45_theirs
 simp only [List.replicate,List.length,nS,nA,Tryz.ntmps7,SV]
 refine .sR fun e h=>?_
 simp only [seval,EMK,zero_34]
 refine mU e (.sR fun e h=>?_) h
 simp only [seval,EMK,fld_27_0,sz_24,ag_24,zero_34,pl_34,sz_34]
 refine mU e (.seqK (.sR fun e h=>?_)) h
 simp only [seval,EMK,fld_27_1,sz_25,ag_25,und_25]
 refine mU e (.gh [.cell 2 18 65] rfl (Mir.joinO (fun v2 : (List TableLength)=>([U,U,.ptr 1 0,.ptr 2 0] ++ us 24)) (fun v2=>⟨[[.d (.int .i64 a0.Work.e0.X),.d (.int .i64 a0.Work.e0.Y),.d (.int .i64 a0.Work.e0.Z),.d (.int .i64 a0.Work.e1.X),.d (.int .i64 a0.Work.e1.Y),.d (.int .i64 a0.Work.e1.Z),.d (.int .i64 a0.Work.e2.X),.d (.int .i64 a0.Work.e2.Y),.d (.int .i64 a0.Work.e2.Z),.d (.int .i64 a0.Work.e3.X),.d (.int .i64 a0.Work.e3.Y),.d (.int .i64 a0.Work.e3.Z),.d (.int .i64 a0.Work.e4.X),.d (.int .i64 a0.Work.e4.Y),.d (.int .i64 a0.Work.e4.Z),.d (.int .i64 a0.Work.e5.X),.d (.int .i64 a0.Work.e5.Y),.d (.int .i64 a0.Work.e5.Z),.d (.list (List.map encR45Length a0.Lengths))],[.d (.int .i64 0),.d (.int .i64 0),.d (.int .i64 0),.d (.int .i64 0),.d (.int .i64 0),.d (.int .i64 0),.d (.int .i64 0),.d (.int .i64 0),.d (.int .i64 0),.d (.int .i64 0),.d (.int .i64 0),.d (.int .i64 0),.d (.int .i64 0),.d (.int .i64 0),.d (.int .i64 0),.d (.int .i64 0),.d (.int .i64 0),.d (.int .i64 0),.nil],[.d (.int .i64 a0.Work.e0.X),.d (.int .i64 a0.Work.e0.Y),.d (.int .i64 a0.Work.e0.Z),.d (.int .i64 a0.Work.e1.X),.d (.int .i64 a0.Work.e1.Y),.d (.int .i64 a0.Work.e1.Z),.d (.int .i64 a0.Work.e2.X),.d (.int .i64 a0.Work.e2.Y),.d (.int .i64 a0.Work.e2.Z),.d (.int .i64 a0.Work.e3.X),.d (.int .i64 a0.Work.e3.Y),.d (.int .i64 a0.Work.e3.Z),.d (.int .i64 a0.Work.e4.X),.d (.int .i64 a0.Work.e4.Y),.d (.int .i64 a0.Work.e4.Z),.d (.int .i64 a0.Work.e5.X),.d (.int .i64 a0.Work.e5.Y),.d (.int .i64 a0.Work.e5.Z),.own 0 (List.map encTableLength v2)]],[(65,v2.length)]⟩) (fun _=>rfl) ?_ ?_)) h
 refine .block (.guard fun qg65=>Mir.range (fun (i1 : Nat) (v1 : (List TableLength))=>([U,U,.ptr 1 0,.ptr 2 0,U,U,U,U,U,U,.d (.list (List.map encR45Length a0.Lengths)),.d (.int .i64 (a0.Lengths.length : Int)),.d (.int .i64 (i1 : Int))] ++ us 15)) (fun i1 v1=>⟨[[.d (.int .i64 a0.Work.e0.X),.d (.int .i64 a0.Work.e0.Y),.d (.int .i64 a0.Work.e0.Z),.d (.int .i64 a0.Work.e1.X),.d (.int .i64 a0.Work.e1.Y),.d (.int .i64 a0.Work.e1.Z),.d (.int .i64 a0.Work.e2.X),.d (.int .i64 a0.Work.e2.Y),.d (.int .i64 a0.Work.e2.Z),.d (.int .i64 a0.Work.e3.X),.d (.int .i64 a0.Work.e3.Y),.d (.int .i64 a0.Work.e3.Z),.d (.int .i64 a0.Work.e4.X),.d (.int .i64 a0.Work.e4.Y),.d (.int .i64 a0.Work.e4.Z),.d (.int .i64 a0.Work.e5.X),.d (.int .i64 a0.Work.e5.Y),.d (.int .i64 a0.Work.e5.Z),.d (.list (List.map encR45Length a0.Lengths))],[.d (.int .i64 0),.d (.int .i64 0),.d (.int .i64 0),.d (.int .i64 0),.d (.int .i64 0),.d (.int .i64 0),.d (.int .i64 0),.d (.int .i64 0),.d (.int .i64 0),.d (.int .i64 0),.d (.int .i64 0),.d (.int .i64 0),.d (.int .i64 0),.d (.int .i64 0),.d (.int .i64 0),.d (.int .i64 0),.d (.int .i64 0),.d (.int .i64 0),.nil],[.d (.int .i64 a0.Work.e0.X),.d (.int .i64 a0.Work.e0.Y),.d (.int .i64 a0.Work.e0.Z),.d (.int .i64 a0.Work.e1.X),.d (.int .i64 a0.Work.e1.Y),.d (.int .i64 a0.Work.e1.Z),.d (.int .i64 a0.Work.e2.X),.d (.int .i64 a0.Work.e2.Y),.d (.int .i64 a0.Work.e2.Z),.d (.int .i64 a0.Work.e3.X),.d (.int .i64 a0.Work.e3.Y),.d (.int .i64 a0.Work.e3.Z),.d (.int .i64 a0.Work.e4.X),.d (.int .i64 a0.Work.e4.Y),.d (.int .i64 a0.Work.e4.Z),.d (.int .i64 a0.Work.e5.X),.d (.int .i64 a0.Work.e5.Y),.d (.int .i64 a0.Work.e5.Z),.own 0 (List.map encTableLength v1)]],[(65,v1.length)]⟩) qg65 (fun _ _=>rfl) (by simp only [seval,FMK,zNI]) (by simp only [seval,FMK,zNI]) ?_ ?_)
 intro i1 e1 v1 qr63
 refine .sR fun e h=>?_
 simp only [seval,EMK,qr63]
 refine mU e (.seqK (.condT rfl (.skip (Mir.toK (.seqK (.block (.sR fun e h=>?_))))))) h
 simp only [seval,EMK,und_25,sz_68,qr63,Int.toNat_natCast,ag_68,zero_68]
 refine mU e (.guard fun q67=>.region fun e h=>?_) h
 simp only [seval,EMK,fld_34_1,sz_32,ag_32,fld_68_0,sz_2,ag_2,fld_68_1,zero_65,pl_65,und_32,sz_65,(oL 2),app_32,al_TableLength,q67]
 refine mU e (.region fun e h=>?_) h
 simp only [seval,EMK]
 cases h
 simp only [seval,FMK,Tryz.results7,ag_34,sz_34,qr63]
 intro v1 qd64
 refine .sR fun e h=>?_
 simp only [seval,EMK,qd64]
 refine mU e (.seqK (.condF rfl (.exit fun e h=>?_))) h
 cases h
 simp only [seval,FMK,Tryz.results7,ag_34,sz_34]
 intro v2
 refine Mir.toK (.sR fun e h=>?_)
 simp only [seval,EMK,ag_34,sz_34]
 refine mU e (.ret fun e h=>?_) h
 cases h
 simp only [seval,FMK,Tryz.results7,ag_34,sz_34]
def r45_Same (a0 : R45Table) (a1 : R45Table) : Option Bool := if (!((a0.Work.e0.X == a1.Work.e0.X) && ((a0.Work.e0.Y == a1.Work.e0.Y) && ((a0.Work.e0.Z == a1.Work.e0.Z) && ((a0.Work.e1.X == a1.Work.e1.X) && ((a0.Work.e1.Y == a1.Work.e1.Y) && ((a0.Work.e1.Z == a1.Work.e1.Z) && ((a0.Work.e2.X == a1.Work.e2.X) && ((a0.Work.e2.Y == a1.Work.e2.Y) && ((a0.Work.e2.Z == a1.Work.e2.Z) && ((a0.Work.e3.X == a1.Work.e3.X) && ((a0.Work.e3.Y == a1.Work.e3.Y) && ((a0.Work.e3.Z == a1.Work.e3.Z) && ((a0.Work.e4.X == a1.Work.e4.X) && ((a0.Work.e4.Y == a1.Work.e4.Y) && ((a0.Work.e4.Z == a1.Work.e4.Z) && ((a0.Work.e5.X == a1.Work.e5.X) && ((a0.Work.e5.Y == a1.Work.e5.Y) && (a0.Work.e5.Z == a1.Work.e5.Z)))))))))))))))))) || ((a0.Lengths.length : Int) != (a1.Lengths.length : Int))) = true then some false else bindX (guardO (okIdx a0.Lengths) ( rangeX (fun (i1 : Nat) (e1 : R45Length) (v1 : Unit)=>bindO (gt a1.Lengths (i1 : Int)) fun (e2 : R45Length)=>if (!((e1.Number == e2.Number) && (e1.Length == e2.Length))) = true then some (.ret (.ret false)) else some (.go ())) (fun (v1 : Unit)=>some (.go ())) a0.Lengths 0 ())) fun (v2 : Unit)=>some true
theorem r45_Same_spec {a0 : R45Table} {a1 : R45Table} {y : Bool} (h : r45_Same a0 a1 = some y) : Spec gP 10 [.agg [.d (.int .i64 a0.Work.e0.X),.d (.int .i64 a0.Work.e0.Y),.d (.int .i64 a0.Work.e0.Z),.d (.int .i64 a0.Work.e1.X),.d (.int .i64 a0.Work.e1.Y),.d (.int .i64 a0.Work.e1.Z),.d (.int .i64 a0.Work.e2.X),.d (.int .i64 a0.Work.e2.Y),.d (.int .i64 a0.Work.e2.Z),.d (.int .i64 a0.Work.e3.X),.d (.int .i64 a0.Work.e3.Y),.d (.int .i64 a0.Work.e3.Z),.d (.int .i64 a0.Work.e4.X),.d (.int .i64 a0.Work.e4.Y),.d (.int .i64 a0.Work.e4.Z),.d (.int .i64 a0.Work.e5.X),.d (.int .i64 a0.Work.e5.Y),.d (.int .i64 a0.Work.e5.Z),.d (.list (List.map encR45Length a0.Lengths))],.agg [.d (.int .i64 a1.Work.e0.X),.d (.int .i64 a1.Work.e0.Y),.d (.int .i64 a1.Work.e0.Z),.d (.int .i64 a1.Work.e1.X),.d (.int .i64 a1.Work.e1.Y),.d (.int .i64 a1.Work.e1.Z),.d (.int .i64 a1.Work.e2.X),.d (.int .i64 a1.Work.e2.Y),.d (.int .i64 a1.Work.e2.Z),.d (.int .i64 a1.Work.e3.X),.d (.int .i64 a1.Work.e3.Y),.d (.int .i64 a1.Work.e3.Z),.d (.int .i64 a1.Work.e4.X),.d (.int .i64 a1.Work.e4.Y),.d (.int .i64 a1.Work.e4.Z),.d (.int .i64 a1.Work.e5.X),.d (.int .i64 a1.Work.e5.Y),.d (.int .i64 a1.Work.e5.Z),.d (.list (List.map encR45Length a1.Lengths))]] (.d (.bool y)) := by
 refine spec_mir Tryz.func10 rfl (by kernel_rfl) (by kernel_rfl) (fun y : Bool=>.d (.bool y)) ?_ h
 unfold r45_Same
 simp only [List.replicate,List.length,nS,nA,Tryz.ntmps10,SV]
 refine .sR fun e h=>?_
 simp only [seval,EMK]
 refine mU e (.seqK (.seqK (.joinV ([U,U,.ptr 0 0,.ptr 1 0,U,U,U,U,U,U,U,U,U,U,U,U,U,U,U,.d (.bool (!((a0.Work.e0.X == a1.Work.e0.X) && ((a0.Work.e0.Y == a1.Work.e0.Y) && ((a0.Work.e0.Z == a1.Work.e0.Z) && ((a0.Work.e1.X == a1.Work.e1.X) && ((a0.Work.e1.Y == a1.Work.e1.Y) && ((a0.Work.e1.Z == a1.Work.e1.Z) && ((a0.Work.e2.X == a1.Work.e2.X) && ((a0.Work.e2.Y == a1.Work.e2.Y) && ((a0.Work.e2.Z == a1.Work.e2.Z) && ((a0.Work.e3.X == a1.Work.e3.X) && ((a0.Work.e3.Y == a1.Work.e3.Y) && ((a0.Work.e3.Z == a1.Work.e3.Z) && ((a0.Work.e4.X == a1.Work.e4.X) && ((a0.Work.e4.Y == a1.Work.e4.Y) && ((a0.Work.e4.Z == a1.Work.e4.Z) && ((a0.Work.e5.X == a1.Work.e5.X) && ((a0.Work.e5.Y == a1.Work.e5.Y) && (a0.Work.e5.Z == a1.Work.e5.Z)))))))))))))))))) || ((a0.Lengths.length : Int) != (a1.Lengths.length : Int))))] ++ us 18) ⟨[[.d (.int .i64 a0.Work.e0.X),.d (.int .i64 a0.Work.e0.Y),.d (.int .i64 a0.Work.e0.Z),.d (.int .i64 a0.Work.e1.X),.d (.int .i64 a0.Work.e1.Y),.d (.int .i64 a0.Work.e1.Z),.d (.int .i64 a0.Work.e2.X),.d (.int .i64 a0.Work.e2.Y),.d (.int .i64 a0.Work.e2.Z),.d (.int .i64 a0.Work.e3.X),.d (.int .i64 a0.Work.e3.Y),.d (.int .i64 a0.Work.e3.Z),.d (.int .i64 a0.Work.e4.X),.d (.int .i64 a0.Work.e4.Y),.d (.int .i64 a0.Work.e4.Z),.d (.int .i64 a0.Work.e5.X),.d (.int .i64 a0.Work.e5.Y),.d (.int .i64 a0.Work.e5.Z),.d (.list (List.map encR45Length a0.Lengths))],[.d (.int .i64 a1.Work.e0.X),.d (.int .i64 a1.Work.e0.Y),.d (.int .i64 a1.Work.e0.Z),.d (.int .i64 a1.Work.e1.X),.d (.int .i64 a1.Work.e1.Y),.d (.int .i64 a1.Work.e1.Z),.d (.int .i64 a1.Work.e2.X),.d (.int .i64 a1.Work.e2.Y),.d (.int .i64 a1.Work.e2.Z),.d (.int .i64 a1.Work.e3.X),.d (.int .i64 a1.Work.e3.Y),.d (.int .i64 a1.Work.e3.Z),.d (.int .i64 a1.Work.e4.X),.d (.int .i64 a1.Work.e4.Y),.d (.int .i64 a1.Work.e4.Z),.d (.int .i64 a1.Work.e5.X),.d (.int .i64 a1.Work.e5.Y),.d (.int .i64 a1.Work.e5.Z),.d (.list (List.map encR45Length a1.Lengths))]],[]⟩ rfl ?_ ?_))) h
 refine SWs.region ?_
 rcases Bool.eq_false_or_eq_true ((a0.Work.e0.X == a1.Work.e0.X) && ((a0.Work.e0.Y == a1.Work.e0.Y) && ((a0.Work.e0.Z == a1.Work.e0.Z) && ((a0.Work.e1.X == a1.Work.e1.X) && ((a0.Work.e1.Y == a1.Work.e1.Y) && ((a0.Work.e1.Z == a1.Work.e1.Z) && ((a0.Work.e2.X == a1.Work.e2.X) && ((a0.Work.e2.Y == a1.Work.e2.Y) && ((a0.Work.e2.Z == a1.Work.e2.Z) && ((a0.Work.e3.X == a1.Work.e3.X) && ((a0.Work.e3.Y == a1.Work.e3.Y) && ((a0.Work.e3.Z == a1.Work.e3.Z) && ((a0.Work.e4.X == a1.Work.e4.X) && ((a0.Work.e4.Y == a1.Work.e4.Y) && ((a0.Work.e4.Z == a1.Work.e4.Z) && ((a0.Work.e5.X == a1.Work.e5.X) && ((a0.Work.e5.Y == a1.Work.e5.Y) && (a0.Work.e5.Z == a1.Work.e5.Z)))))))))))))))))) with hb1 | hb1
 simp only [seval,EMK,SL,PB,fld_27_0,sz_24,ag_24,gE_24,fld_27_1,sz_25,ag_25,und_25,hb1]
 simp only [seval,EMK,SL,PB,fld_27_0,sz_24,ag_24,gE_24,hb1]
 refine Mir.toK (.cond rfl (fun hb3=>?_) (fun hb3=>?_))
 refine .sR fun e h=>?_
 simp only [seval,EMK]
 refine mU e (.ret fun e h=>?_) h
 cases h
 simp only [seval,FMK,Tryz.results10]
 refine .skip (Mir.toK (.seqK (.sR fun e h=>?_)))
 simp only [seval,EMK]
 refine mU e (Mir.join (fun v2 : Unit=>(us 38)) (fun v2=>⟨[[.d (.int .i64 a0.Work.e0.X),.d (.int .i64 a0.Work.e0.Y),.d (.int .i64 a0.Work.e0.Z),.d (.int .i64 a0.Work.e1.X),.d (.int .i64 a0.Work.e1.Y),.d (.int .i64 a0.Work.e1.Z),.d (.int .i64 a0.Work.e2.X),.d (.int .i64 a0.Work.e2.Y),.d (.int .i64 a0.Work.e2.Z),.d (.int .i64 a0.Work.e3.X),.d (.int .i64 a0.Work.e3.Y),.d (.int .i64 a0.Work.e3.Z),.d (.int .i64 a0.Work.e4.X),.d (.int .i64 a0.Work.e4.Y),.d (.int .i64 a0.Work.e4.Z),.d (.int .i64 a0.Work.e5.X),.d (.int .i64 a0.Work.e5.Y),.d (.int .i64 a0.Work.e5.Z),.d (.list (List.map encR45Length a0.Lengths))],[.d (.int .i64 a1.Work.e0.X),.d (.int .i64 a1.Work.e0.Y),.d (.int .i64 a1.Work.e0.Z),.d (.int .i64 a1.Work.e1.X),.d (.int .i64 a1.Work.e1.Y),.d (.int .i64 a1.Work.e1.Z),.d (.int .i64 a1.Work.e2.X),.d (.int .i64 a1.Work.e2.Y),.d (.int .i64 a1.Work.e2.Z),.d (.int .i64 a1.Work.e3.X),.d (.int .i64 a1.Work.e3.Y),.d (.int .i64 a1.Work.e3.Z),.d (.int .i64 a1.Work.e4.X),.d (.int .i64 a1.Work.e4.Y),.d (.int .i64 a1.Work.e4.Z),.d (.int .i64 a1.Work.e5.X),.d (.int .i64 a1.Work.e5.Y),.d (.int .i64 a1.Work.e5.Z),.d (.list (List.map encR45Length a1.Lengths))]],[]⟩) (fun _=>rfl) ?_ ?_) h
 refine .block (.guard fun qg68=>Mir.range (fun (i1 : Nat) (v1 : Unit)=>([U,U,.ptr 0 0,.ptr 1 0,U,.d (.int .i64 (i1 : Int))] ++ us 32)) (fun i1 v1=>⟨[[.d (.int .i64 a0.Work.e0.X),.d (.int .i64 a0.Work.e0.Y),.d (.int .i64 a0.Work.e0.Z),.d (.int .i64 a0.Work.e1.X),.d (.int .i64 a0.Work.e1.Y),.d (.int .i64 a0.Work.e1.Z),.d (.int .i64 a0.Work.e2.X),.d (.int .i64 a0.Work.e2.Y),.d (.int .i64 a0.Work.e2.Z),.d (.int .i64 a0.Work.e3.X),.d (.int .i64 a0.Work.e3.Y),.d (.int .i64 a0.Work.e3.Z),.d (.int .i64 a0.Work.e4.X),.d (.int .i64 a0.Work.e4.Y),.d (.int .i64 a0.Work.e4.Z),.d (.int .i64 a0.Work.e5.X),.d (.int .i64 a0.Work.e5.Y),.d (.int .i64 a0.Work.e5.Z),.d (.list (List.map encR45Length a0.Lengths))],[.d (.int .i64 a1.Work.e0.X),.d (.int .i64 a1.Work.e0.Y),.d (.int .i64 a1.Work.e0.Z),.d (.int .i64 a1.Work.e1.X),.d (.int .i64 a1.Work.e1.Y),.d (.int .i64 a1.Work.e1.Z),.d (.int .i64 a1.Work.e2.X),.d (.int .i64 a1.Work.e2.Y),.d (.int .i64 a1.Work.e2.Z),.d (.int .i64 a1.Work.e3.X),.d (.int .i64 a1.Work.e3.Y),.d (.int .i64 a1.Work.e3.Z),.d (.int .i64 a1.Work.e4.X),.d (.int .i64 a1.Work.e4.Y),.d (.int .i64 a1.Work.e4.Z),.d (.int .i64 a1.Work.e5.X),.d (.int .i64 a1.Work.e5.Y),.d (.int .i64 a1.Work.e5.Z),.d (.list (List.map encR45Length a1.Lengths))]],[]⟩) qg68 (fun _ _=>rfl) (by simp only [seval,FMK,zNI]) (by simp only [seval,FMK,zNI]) ?_ ?_)
 intro i1 e1 v1 qr66
 refine .seqK (.sR fun e h=>?_)
 simp only [seval,EMK,fld_27_1,sz_25,ag_25,und_25,qr66]
 refine mU e (.condT rfl (.skip (Mir.toK (.seqK (.block (.seqK (.bind fun e2 q71=>?_))))))) h
 replace q71 := gt_ok q71
 simp only [Int.toNat_natCast] at q71
 refine .regionD [] (by kernel_rfl) fun e h=>?_
 simp only [seval,EMK,SB,fld_27_1,sz_25,ag_25,und_25,sz_68,qr66,Int.toNat_natCast,ag_68,q71,gE_68]
 refine mU e (.cond rfl (fun hb73=>?_) (fun hb73=>?_)) h
 refine .sR fun e h=>?_
 simp only [seval,EMK]
 refine mU e (.ret fun e h=>?_) h
 cases h
 simp only [seval,FMK,Tryz.results10]
 refine .skip (Mir.toB (Mir.toK (.region fun e h=>?_)))
 simp only [seval,EMK]
 cases h
 simp only [seval,FMK,Tryz.results10,qr66]
 intro v1 qd67
 refine .seqK (.sR fun e h=>?_)
 simp only [seval,EMK,fld_27_1,sz_25,ag_25,und_25,qd67]
 refine mU e (.condF rfl (.exit fun e h=>?_)) h
 cases h
 simp only [seval,FMK,Tryz.results10]
 intro v2
 refine Mir.toK (.sR fun e h=>?_)
 simp only [seval,EMK]
 refine mU e (.ret fun e h=>?_) h
 cases h
 simp only [seval,FMK,Tryz.results10]
def tb_lengths (a0 : (List (List UInt8))) : Option ((List Int) × Bool) := bindX (guardO (okIdx a0) ( rangeX (fun (i1 : Nat) (e1 : (List UInt8)) (v1 : (List Int))=>bindO (dc_FromMillimetres e1) fun (y1 : Int × Int)=>bindO (if (y1.2 != 0) = true then some true else bindO (dc_Millimetres y1.1) fun (y2 : (List UInt8))=>some (!(y2 == e1))) fun (v2 : Bool)=>if v2 = true then some (.ret (.ret ([],false))) else guardO (okLen (v1.length + 1)) ( some (.go (v1 ++ [y1.1])))) (fun (v1 : (List Int))=>some (.go v1)) a0 0 [])) fun (v3 : (List Int))=>some (v3,true)
theorem tb_lengths_spec {a0 : (List (List UInt8))} {y : (List Int) × Bool} (h : tb_lengths a0 = some y) : Spec gP 49 [.d (.list (List.map eStr a0))] (.tuple [.d (.list (List.map (eInt .i64) y.1)),.d (.bool y.2)]) := by
 refine spec_mir Tryz.func49 rfl (by kernel_rfl) (by kernel_rfl) (fun y : (List Int) × Bool=>.tuple [.d (.list (List.map (eInt .i64) y.1)),.d (.bool y.2)]) ?_ h
 unfold tb_lengths
 simp only [List.replicate,List.length,nS,nA,Tryz.ntmps49,SV]
 refine .sR fun e h=>?_
 simp only [seval,EMK,eInt,eStr]
 refine mU e (.sR fun e h=>?_) h
 simp only [seval,EMK,eInt,eStr]
 refine mU e (.seqK (.sR fun e h=>?_)) h
 simp only [seval,EMK,und_70,eInt,eStr]
 refine mU e (.gh [.slot 4 2] rfl (Mir.join (fun v3 : (List Int)=>([U,U,U,U,.own 0 (List.map (eInt .i64) v3)] ++ us 29)) (fun v3=>⟨[],[(2,v3.length)]⟩) (fun _=>rfl) ?_ ?_)) h
 refine .block (.guard fun q1=>Mir.range (fun (i1 : Nat) (v1 : (List Int))=>([U,U,U,U,.own 0 (List.map (eInt .i64) v1),U,U,U,U,.d (.list (List.map eStr a0)),.d (.int .i64 (a0.length : Int)),.d (.int .i64 (i1 : Int))] ++ us 22)) (fun i1 v1=>⟨[],[(2,v1.length)]⟩) q1 (fun _ _=>rfl) (by simp only [seval,FMK,eInt,eStr,zNI]) (by simp only [seval,FMK,eInt,eStr,zNI]) ?_ ?_)
 intro i1 e1 v1 q2
 refine .sR fun e h=>?_
 simp only [seval,EMK,q2,eInt,eStr]
 refine mU e (.seqK (.condT rfl (.skip (Mir.toK (.seqK (.block (.sR fun e h=>?_))))))) h
 simp only [seval,EMK,und_70,sz_9,q2,Int.toNat_natCast,ag_9,eInt,eStr]
 refine mU e (.seqK (.bind fun y1 h1=>.region fun e h=>?_)) h
 simp only [seval,EMK,eInt,eStr]
 refine SpecS.by (dc_FromMillimetres_spec h1) (by simp only [seval,FMK,eInt,eStr]) ?_
 simp only [seval,EMK,eInt,eStr]
 refine mU e (.seqK (.seqK (Mir.joinO (fun v2 : Bool=>([U,U,U,U,.own 0 (List.map (eInt .i64) v1),U,U,.d (.int .i64 y1.1),U,.d (.list (List.map eStr a0)),.d (.int .i64 (a0.length : Int)),.d (.int .i64 (i1 : Int)),U,U,U,U,U,U,U,U,U,U,U,U,U,U,U,.d (.bool v2)] ++ us 6)) (fun v2=>⟨[],[(2,v1.length)]⟩) (fun _=>rfl) ?_ ?_))) h
 refine .ite (fun h2=>?_) (fun h2=>?_)
 refine .region fun e h=>?_
 simp only [seval,EMK,eInt,eStr,h2]
 cases h
 simp only [seval,FMK,eInt,eStr,h2]
 refine .bind fun y2 h3=>.region fun e h=>?_
 simp only [seval,EMK,eInt,eStr,h2]
 refine SpecS.by (dc_Millimetres_spec h3) (by simp only [seval,FMK,eInt,eStr,h2]) ?_
 simp only [seval,EMK,eInt,eStr,h2]
 cases h
 simp only [seval,FMK,eInt,eStr,h2]
 intro v2
 refine Mir.toK (.cond rfl (fun h4=>?_) (fun h4=>?_))
 refine .sR fun e h=>?_
 simp only [seval,EMK,eInt,eStr]
 refine mU e (.ret fun e h=>?_) h
 cases h
 simp only [seval,FMK,eInt,eStr,Tryz.results49]
 refine .skip (Mir.toK (.guard fun q3=>.region fun e h=>?_))
 simp only [seval,EMK,und_61,sz_2,zero_2,(oL 1),app_61,al_eInt,q3,eInt,eStr]
 refine mU e (.region fun e h=>?_) h
 simp only [seval,EMK,eInt,eStr]
 cases h
 simp only [seval,FMK,eInt,eStr,Tryz.results49,q2]
 intro v1 q4
 refine .sR fun e h=>?_
 simp only [seval,EMK,q4,eInt,eStr]
 refine mU e (.seqK (.condF rfl (.exit fun e h=>?_))) h
 cases h
 simp only [seval,FMK,eInt,eStr,Tryz.results49]
 intro v3
 refine Mir.toK (.sR fun e h=>?_)
 simp only [seval,EMK,eInt,eStr]
 refine mU e (.ret fun e h=>?_) h
 cases h
 simp only [seval,FMK,eInt,eStr,Tryz.results49]
def slices_Index_string_string (a0 : (List (List UInt8))) (a1 : (List UInt8)) : Option Int := bindX (guardO (okIdx a0) ( rangeX (fun (i1 : Nat) (e1 : (List UInt8)) (v1 : Unit)=>if (a1 == e1) = true then some (.ret (.ret (i1 : Int))) else some (.go ())) (fun (v1 : Unit)=>some (.go ())) a0 0 ())) fun (v2 : Unit)=>some (-1)
theorem slices_Index_string_string_spec {a0 : (List (List UInt8))} {a1 : (List UInt8)} {y : Int} (h : slices_Index_string_string a0 a1 = some y) : Spec gP 50 [.d (.list (List.map eStr a0)),.d (.str a1)] (.d (.int .i64 y)) := by
 refine spec_mir Tryz.func50 rfl (by kernel_rfl) (by kernel_rfl) (fun y : Int=>.d (.int .i64 y)) ?_ h
 unfold slices_Index_string_string
 simp only [List.replicate,List.length,nS,nA,Tryz.ntmps50,SV]
 refine .sR fun e h=>?_
 simp only [seval,EMK,eStr]
 refine mU e (.seqK (.sR fun e h=>?_)) h
 simp only [seval,EMK,und_70,eStr]
 refine mU e (Mir.join (fun v2 : Unit=>(us 19)) (fun v2=>⟨[],[]⟩) (fun _=>rfl) ?_ ?_) h
 refine .block (.guard fun qg51=>Mir.range (fun (i1 : Nat) (v1 : Unit)=>([.d (.list (List.map eStr a0)),.d (.str a1),U,U,U,U,U,.d (.int .i64 (a0.length : Int)),.d (.int .i64 (i1 : Int))] ++ us 10)) (fun i1 v1=>⟨[],[]⟩) qg51 (fun _ _=>rfl) (by simp only [seval,FMK,eStr,zNI]) (by simp only [seval,FMK,eStr,zNI]) ?_ ?_)
 intro i1 e1 v1 qr49
 refine .sR fun e h=>?_
 simp only [seval,EMK,qr49,eStr]
 refine mU e (.seqK (.condT rfl (.skip (Mir.toK (.seqK (.block (.sR fun e h=>?_))))))) h
 simp only [seval,EMK,eStr]
 refine mU e (.sR fun e h=>?_) h
 simp only [seval,EMK,und_70,sz_9,qr49,Int.toNat_natCast,ag_9,eStr]
 refine mU e (.cond rfl (fun hb54=>?_) (fun hb54=>?_)) h
 refine .sR fun e h=>?_
 simp only [seval,EMK,eStr]
 refine mU e (.ret fun e h=>?_) h
 cases h
 simp only [seval,FMK,eStr,Tryz.results50]
 refine .skip (Mir.toB (Mir.toK (.region fun e h=>?_)))
 simp only [seval,EMK,eStr]
 cases h
 simp only [seval,FMK,eStr,Tryz.results50,qr49]
 intro v1 qd50
 refine .sR fun e h=>?_
 simp only [seval,EMK,qd50,eStr]
 refine mU e (.seqK (.condF rfl (.exit fun e h=>?_))) h
 cases h
 simp only [seval,FMK,eStr,Tryz.results50]
 intro v2
 refine Mir.toK (.sR fun e h=>?_)
 simp only [seval,EMK,eStr]
 refine mU e (.ret fun e h=>?_) h
 cases h
 simp only [seval,FMK,eStr,Tryz.results50]
def tb_Parse (a0 : (List UInt8)) : Option (TableTable × Int × Int) := if (decide ((a0.length : Int) > 65536)) = true then some (TableTable.mk (Arr6ApiPos.mk (ApiPos.mk 0 0 0) (ApiPos.mk 0 0 0) (ApiPos.mk 0 0 0) (ApiPos.mk 0 0 0) (ApiPos.mk 0 0 0) (ApiPos.mk 0 0 0)) [],0,3) else bindX (loopX (fun (v1 : (List UInt8) × Int × Int × TableTable)=>if (!(v1.1 == [])) = true then bindO (strings_Cut v1.1 [10]) fun (y1 : (List UInt8) × (List UInt8) × Bool)=>bindO (if y1.2.2 = true then bindO (bindO (strings_Split y1.1 [32]) fun (y2 : (List (List UInt8)))=>if (decide ((y2.length : Int) < 3)) = true then some (-1,v1.2.2.2) else bindO (cutF y2 2) fun (s1 : (List (List UInt8)))=>bindO (tb_lengths s1) fun (y3 : (List Int) × Bool)=>if (!y3.2) = true then some (-1,v1.2.2.2) else bindO (bindO (gt y2 0) fun (e1 : (List UInt8))=>if (e1 == [119,111,114,107]) = true then some ((y3.1.length : Int) == 3) else some false) fun (v2 : Bool)=>if v2 = true then bindO (gt y2 1) fun (e2 : (List UInt8))=>bindO (slices_Index_string_string [[71,53,52],[71,53,53],[71,53,54],[71,53,55],[71,53,56],[71,53,57]] e2) fun (y4 : Int)=>bindO (gt y3.1 0) fun (e3 : Int)=>bindO (gt y3.1 1) fun (e4 : Int)=>bindO (gt y3.1 2) fun (e5 : Int)=>if ((decide (y4 < 0)) || ((e3 == 0) && ((e4 == 0) && (e5 == 0)))) = true then some (-1,v1.2.2.2) else bindO (guardO (decide (0 ≤ y4 ∧ y4 < 6)) ( if (y4 == 0) = true then some (TableTable.mk (Arr6ApiPos.mk (ApiPos.mk e3 e4 e5) v1.2.2.2.Work.e1 v1.2.2.2.Work.e2 v1.2.2.2.Work.e3 v1.2.2.2.Work.e4 v1.2.2.2.Work.e5) v1.2.2.2.Lengths) else if (y4 == 1) = true then some (TableTable.mk (Arr6ApiPos.mk v1.2.2.2.Work.e0 (ApiPos.mk e3 e4 e5) v1.2.2.2.Work.e2 v1.2.2.2.Work.e3 v1.2.2.2.Work.e4 v1.2.2.2.Work.e5) v1.2.2.2.Lengths) else if (y4 == 2) = true then some (TableTable.mk (Arr6ApiPos.mk v1.2.2.2.Work.e0 v1.2.2.2.Work.e1 (ApiPos.mk e3 e4 e5) v1.2.2.2.Work.e3 v1.2.2.2.Work.e4 v1.2.2.2.Work.e5) v1.2.2.2.Lengths) else if (y4 == 3) = true then some (TableTable.mk (Arr6ApiPos.mk v1.2.2.2.Work.e0 v1.2.2.2.Work.e1 v1.2.2.2.Work.e2 (ApiPos.mk e3 e4 e5) v1.2.2.2.Work.e4 v1.2.2.2.Work.e5) v1.2.2.2.Lengths) else if (y4 == 4) = true then some (TableTable.mk (Arr6ApiPos.mk v1.2.2.2.Work.e0 v1.2.2.2.Work.e1 v1.2.2.2.Work.e2 v1.2.2.2.Work.e3 (ApiPos.mk e3 e4 e5) v1.2.2.2.Work.e5) v1.2.2.2.Lengths) else some (TableTable.mk (Arr6ApiPos.mk v1.2.2.2.Work.e0 v1.2.2.2.Work.e1 v1.2.2.2.Work.e2 v1.2.2.2.Work.e3 v1.2.2.2.Work.e4 (ApiPos.mk e3 e4 e5)) v1.2.2.2.Lengths))) fun (v3 : TableTable)=>some (y4,v3) else bindO (bindO (gt y2 0) fun (e6 : (List UInt8))=>if (e6 == [108,101,110,103,116,104]) = true then some ((y3.1.length : Int) == 1) else some false) fun (v4 : Bool)=>if v4 = true then bindO (gt y2 1) fun (e7 : (List UInt8))=>bindO (strconv_ParseIntE e7 10 64) fun (y5 : Int × Bool)=>bindO (gt y3.1 0) fun (e8 : Int)=>bindO (if y5.2 = true then bindO (strconv_FormatInt y5.1 10) fun (y6 : (List UInt8))=>if (y6 == e7) = true then bindO (tb_entry (TableLength.mk y5.1 e8)) fun (y7 : Bool)=>some (!y7) else some true else some true) fun (v5 : Bool)=>if v5 = true then some (-1,v1.2.2.2) else guardO (okLen (v1.2.2.2.Lengths.length + 1)) ( some (IntKind.i64.wrap (6 + y5.1),TableTable.mk v1.2.2.2.Work (v1.2.2.2.Lengths ++ [TableLength.mk y5.1 e8]))) else some (-1,v1.2.2.2)) fun (v6 : Int × TableTable)=>some (v6.1,v6.2) else some (-1,v1.2.2.2)) fun (v7 : Int × TableTable)=>if (decide (v7.1 ≤ v1.2.1)) = true then some (.ret (.ret (TableTable.mk (Arr6ApiPos.mk (ApiPos.mk 0 0 0) (ApiPos.mk 0 0 0) (ApiPos.mk 0 0 0) (ApiPos.mk 0 0 0) (ApiPos.mk 0 0 0) (ApiPos.mk 0 0 0)) [],v1.2.2.1,2))) else some (.go (y1.2.1,v7.1,IntKind.i64.wrap (v1.2.2.1 + 1),v7.2)) else some (.ret (.go v1.2.2.2))) fuel (a0,-1,1,TableTable.mk (Arr6ApiPos.mk (ApiPos.mk 0 0 0) (ApiPos.mk 0 0 0) (ApiPos.mk 0 0 0) (ApiPos.mk 0 0 0) (ApiPos.mk 0 0 0) (ApiPos.mk 0 0 0)) [])) fun (v8 : TableTable)=>some (v8,0,0)
theorem tb_Parse_spec {a0 : (List UInt8)} {y : TableTable × Int × Int} (h : tb_Parse a0 = some y) : Spec gP 9 [.d (.str a0)] (.tuple [.agg [.d (.int .i64 y.1.Work.e0.X),.d (.int .i64 y.1.Work.e0.Y),.d (.int .i64 y.1.Work.e0.Z),.d (.int .i64 y.1.Work.e1.X),.d (.int .i64 y.1.Work.e1.Y),.d (.int .i64 y.1.Work.e1.Z),.d (.int .i64 y.1.Work.e2.X),.d (.int .i64 y.1.Work.e2.Y),.d (.int .i64 y.1.Work.e2.Z),.d (.int .i64 y.1.Work.e3.X),.d (.int .i64 y.1.Work.e3.Y),.d (.int .i64 y.1.Work.e3.Z),.d (.int .i64 y.1.Work.e4.X),.d (.int .i64 y.1.Work.e4.Y),.d (.int .i64 y.1.Work.e4.Z),.d (.int .i64 y.1.Work.e5.X),.d (.int .i64 y.1.Work.e5.Y),.d (.int .i64 y.1.Work.e5.Z),.d (.list (List.map encTableLength y.1.Lengths))],.d (.int .i64 y.2.1),.d (.int .i64 y.2.2)]) := by
 refine spec_mir Tryz.func9 rfl (by kernel_rfl) (by kernel_rfl) (fun y : TableTable × Int × Int=>.tuple [.agg [.d (.int .i64 y.1.Work.e0.X),.d (.int .i64 y.1.Work.e0.Y),.d (.int .i64 y.1.Work.e0.Z),.d (.int .i64 y.1.Work.e1.X),.d (.int .i64 y.1.Work.e1.Y),.d (.int .i64 y.1.Work.e1.Z),.d (.int .i64 y.1.Work.e2.X),.d (.int .i64 y.1.Work.e2.Y),.d (.int .i64 y.1.Work.e2.Z),.d (.int .i64 y.1.Work.e3.X),.d (.int .i64 y.1.Work.e3.Y),.d (.int .i64 y.1.Work.e3.Z),.d (.int .i64 y.1.Work.e4.X),.d (.int .i64 y.1.Work.e4.Y),.d (.int .i64 y.1.Work.e4.Z),.d (.int .i64 y.1.Work.e5.X),.d (.int .i64 y.1.Work.e5.Y),.d (.int .i64 y.1.Work.e5.Z),.d (.list (List.map encTableLength y.1.Lengths))],.d (.int .i64 y.2.1),.d (.int .i64 y.2.2)]) ?_ h
 unfold tb_Parse
 simp only [List.replicate,List.length,nS,nA,Tryz.ntmps9,SV]
 refine .sR fun e h=>?_
 simp only [seval,EMK,zero_34,eInt,eStr]
 refine mU e (.seqK (.sR fun e h=>?_)) h
 simp only [seval,EMK,und_9,eInt,eStr]
 refine mU e (.cond rfl (fun hb2=>?_) (fun hb2=>?_)) h
 refine .sR fun e h=>?_
 simp only [seval,EMK,zero_34,pl_34,sz_34]
 refine mU e (.ret fun e h=>?_) h
 cases h
 simp only [seval,FMK,Tryz.results9,ag_34,sz_34]
 refine .skip (Mir.toK (.sR fun e h=>?_))
 simp only [seval,EMK,zero_34,eInt,eStr]
 refine mU e (.sR fun e h=>?_) h
 simp only [seval,EMK,eInt,eStr]
 refine mU e (.seqK (.sR fun e h=>?_)) h
 simp only [seval,EMK,eInt,eStr]
 refine mU e (.gh [.cell 1 18 65] rfl (Mir.join (fun v8 : TableTable=>([U,U,.ptr 0 0,U,U,.ptr 1 0] ++ us 31)) (fun v8=>⟨[[.d (.int .i64 0),.d (.int .i64 0),.d (.int .i64 0),.d (.int .i64 0),.d (.int .i64 0),.d (.int .i64 0),.d (.int .i64 0),.d (.int .i64 0),.d (.int .i64 0),.d (.int .i64 0),.d (.int .i64 0),.d (.int .i64 0),.d (.int .i64 0),.d (.int .i64 0),.d (.int .i64 0),.d (.int .i64 0),.d (.int .i64 0),.d (.int .i64 0),.nil],[.d (.int .i64 v8.Work.e0.X),.d (.int .i64 v8.Work.e0.Y),.d (.int .i64 v8.Work.e0.Z),.d (.int .i64 v8.Work.e1.X),.d (.int .i64 v8.Work.e1.Y),.d (.int .i64 v8.Work.e1.Z),.d (.int .i64 v8.Work.e2.X),.d (.int .i64 v8.Work.e2.Y),.d (.int .i64 v8.Work.e2.Z),.d (.int .i64 v8.Work.e3.X),.d (.int .i64 v8.Work.e3.Y),.d (.int .i64 v8.Work.e3.Z),.d (.int .i64 v8.Work.e4.X),.d (.int .i64 v8.Work.e4.Y),.d (.int .i64 v8.Work.e4.Z),.d (.int .i64 v8.Work.e5.X),.d (.int .i64 v8.Work.e5.Y),.d (.int .i64 v8.Work.e5.Z),.own 0 (List.map encTableLength v8.Lengths)]],[(65,v8.Lengths.length)]⟩) (fun _=>rfl) ?_ ?_)) h
 refine .block (Mir.loop (fun v1 : (List UInt8) × Int × Int × TableTable=>([.d (.str v1.1),U,.ptr 0 0,U,U,.ptr 1 0,.d (.int .i64 v1.2.1),.d (.int .i64 v1.2.2.1)] ++ us 29)) (fun v1=>⟨[[.d (.int .i64 0),.d (.int .i64 0),.d (.int .i64 0),.d (.int .i64 0),.d (.int .i64 0),.d (.int .i64 0),.d (.int .i64 0),.d (.int .i64 0),.d (.int .i64 0),.d (.int .i64 0),.d (.int .i64 0),.d (.int .i64 0),.d (.int .i64 0),.d (.int .i64 0),.d (.int .i64 0),.d (.int .i64 0),.d (.int .i64 0),.d (.int .i64 0),.nil],[.d (.int .i64 v1.2.2.2.Work.e0.X),.d (.int .i64 v1.2.2.2.Work.e0.Y),.d (.int .i64 v1.2.2.2.Work.e0.Z),.d (.int .i64 v1.2.2.2.Work.e1.X),.d (.int .i64 v1.2.2.2.Work.e1.Y),.d (.int .i64 v1.2.2.2.Work.e1.Z),.d (.int .i64 v1.2.2.2.Work.e2.X),.d (.int .i64 v1.2.2.2.Work.e2.Y),.d (.int .i64 v1.2.2.2.Work.e2.Z),.d (.int .i64 v1.2.2.2.Work.e3.X),.d (.int .i64 v1.2.2.2.Work.e3.Y),.d (.int .i64 v1.2.2.2.Work.e3.Z),.d (.int .i64 v1.2.2.2.Work.e4.X),.d (.int .i64 v1.2.2.2.Work.e4.Y),.d (.int .i64 v1.2.2.2.Work.e4.Z),.d (.int .i64 v1.2.2.2.Work.e5.X),.d (.int .i64 v1.2.2.2.Work.e5.Y),.d (.int .i64 v1.2.2.2.Work.e5.Z),.own 0 (List.map encTableLength v1.2.2.2.Lengths)]],[(65,v1.2.2.2.Lengths.length)]⟩) (fun _=>rfl) (by simp only [seval,FMK,eInt,eStr]) (by simp only [seval,FMK,eInt,eStr]) fun v1=>.seqK (.sR fun e h=>?_))
 simp only [seval,EMK,eInt,eStr]
 refine mU e (.cond rfl (fun h6=>?_) (fun h6=>?_)) h
 refine .skip (Mir.toK (.seqK (.block (.seqK (.bind fun y1 h7=>.region fun e h=>?_)))))
 simp only [seval,EMK,eInt,eStr]
 refine SpecS.by (strings_Cut_spec h7) (by simp only [seval,FMK,eInt,eStr]) ?_
 simp only [seval,EMK,eInt,eStr]
 refine mU e (.sR fun e h=>?_) h
 simp only [seval,EMK,eInt,eStr]
 refine mU e (.seqK (.sR fun e h=>?_)) h
 simp only [seval,EMK,eInt,eStr]
 refine mU e (Mir.joinO (fun v7 : Int × TableTable=>([U,U,.ptr 0 0,U,U,.ptr 1 0,.d (.int .i64 v1.2.1),.d (.int .i64 v1.2.2.1),U,.d (.str y1.2.1),U,.d (.int .i64 v7.1)] ++ us 25)) (fun v7=>⟨[[.d (.int .i64 0),.d (.int .i64 0),.d (.int .i64 0),.d (.int .i64 0),.d (.int .i64 0),.d (.int .i64 0),.d (.int .i64 0),.d (.int .i64 0),.d (.int .i64 0),.d (.int .i64 0),.d (.int .i64 0),.d (.int .i64 0),.d (.int .i64 0),.d (.int .i64 0),.d (.int .i64 0),.d (.int .i64 0),.d (.int .i64 0),.d (.int .i64 0),.nil],[.d (.int .i64 v7.2.Work.e0.X),.d (.int .i64 v7.2.Work.e0.Y),.d (.int .i64 v7.2.Work.e0.Z),.d (.int .i64 v7.2.Work.e1.X),.d (.int .i64 v7.2.Work.e1.Y),.d (.int .i64 v7.2.Work.e1.Z),.d (.int .i64 v7.2.Work.e2.X),.d (.int .i64 v7.2.Work.e2.Y),.d (.int .i64 v7.2.Work.e2.Z),.d (.int .i64 v7.2.Work.e3.X),.d (.int .i64 v7.2.Work.e3.Y),.d (.int .i64 v7.2.Work.e3.Z),.d (.int .i64 v7.2.Work.e4.X),.d (.int .i64 v7.2.Work.e4.Y),.d (.int .i64 v7.2.Work.e4.Z),.d (.int .i64 v7.2.Work.e5.X),.d (.int .i64 v7.2.Work.e5.Y),.d (.int .i64 v7.2.Work.e5.Z),.own 0 (List.map encTableLength v7.2.Lengths)]],[(65,v7.2.Lengths.length)]⟩) (fun _=>rfl) ?_ ?_) h
 refine .cond rfl (fun h8=>?_) (fun h8=>?_)
 refine .bind fun v6 h9=>.region fun e h=>?_
 simp only [seval,EMK,eInt,eStr]
 refine SpecS.inl Tryz.func27 rfl (by kernel_rfl) (by kernel_rfl) (fun v6 : Int × TableTable=>.d (.int .i64 v6.1)) (fun v6=>⟨[[.d (.int .i64 0),.d (.int .i64 0),.d (.int .i64 0),.d (.int .i64 0),.d (.int .i64 0),.d (.int .i64 0),.d (.int .i64 0),.d (.int .i64 0),.d (.int .i64 0),.d (.int .i64 0),.d (.int .i64 0),.d (.int .i64 0),.d (.int .i64 0),.d (.int .i64 0),.d (.int .i64 0),.d (.int .i64 0),.d (.int .i64 0),.d (.int .i64 0),.nil],[.d (.int .i64 v6.2.Work.e0.X),.d (.int .i64 v6.2.Work.e0.Y),.d (.int .i64 v6.2.Work.e0.Z),.d (.int .i64 v6.2.Work.e1.X),.d (.int .i64 v6.2.Work.e1.Y),.d (.int .i64 v6.2.Work.e1.Z),.d (.int .i64 v6.2.Work.e2.X),.d (.int .i64 v6.2.Work.e2.Y),.d (.int .i64 v6.2.Work.e2.Z),.d (.int .i64 v6.2.Work.e3.X),.d (.int .i64 v6.2.Work.e3.Y),.d (.int .i64 v6.2.Work.e3.Z),.d (.int .i64 v6.2.Work.e4.X),.d (.int .i64 v6.2.Work.e4.Y),.d (.int .i64 v6.2.Work.e4.Z),.d (.int .i64 v6.2.Work.e5.X),.d (.int .i64 v6.2.Work.e5.Y),.d (.int .i64 v6.2.Work.e5.Z),.own 0 (List.map encTableLength v6.2.Lengths)]],[(65,v6.2.Lengths.length)]⟩) h9 rfl ?_ ?_
 simp only [List.replicate,List.length,nS,nA,Tryz.ntmps27,SV]
 refine .sR fun e h=>?_
 simp only [seval,EMK,eInt,eStr]
 refine mU e (.seqK (.bind fun y2 h10=>.region fun e h=>?_)) h
 simp only [seval,EMK,eInt,eStr]
 refine SpecS.by (strings_Split_spec h10) (by simp only [seval,FMK,eInt,eStr]) ?_
 simp only [seval,EMK,eInt,eStr]
 refine mU e (.seqK (.sR fun e h=>?_)) h
 simp only [seval,EMK,und_70,eInt,eStr]
 refine mU e (.cond rfl (fun h11=>?_) (fun h11=>?_)) h
 refine .sR fun e h=>?_
 simp only [seval,EMK,eInt,eStr]
 refine mU e (.ret fun e h=>?_) h
 cases h
 simp only [seval,FMK,eInt,eStr,Tryz.results27]
 refine .skip (Mir.toK (.seqK (.bind fun s1 q1=>?_)))
 replace q1 := cutF_ok q1
 simp only [Int.reduceToNat,Int.reduceLT,Nat.sub_zero,dp0] at q1
 refine .bind fun y3 h12=>.region fun e h=>?_
 simp only [seval,EMK,und_70,sz_9,q1,Nat.le_refl,and_true,true_and,dm,tm,al_eStr,eInt,eStr]
 refine SpecS.by (tb_lengths_spec h12) (by simp only [seval,FMK,eInt,eStr]) ?_
 simp only [seval,EMK,eInt,eStr]
 refine mU e (.seqK (.block (.sR fun e h=>?_))) h
 simp only [seval,EMK,eInt,eStr]
 refine mU e (.cond rfl (fun h13=>?_) (fun h13=>?_)) h
 refine .sR fun e h=>?_
 simp only [seval,EMK,eInt,eStr]
 refine mU e (.ret fun e h=>?_) h
 cases h
 simp only [seval,FMK,eInt,eStr,Tryz.results27]
 refine .seqK (Mir.joinO (fun v2 : Bool=>([.ptr 1 0,U,U,U,U,.d (.list (List.map eStr y2)),.d (.list (List.map (eInt .i64) y3.1)),U,U,U,U,U,U,U,U,U,U,U,U,U,U,U,U,U,U,U,U,.d (.bool v2)] ++ us 87)) (fun v2=>⟨[[.d (.int .i64 0),.d (.int .i64 0),.d (.int .i64 0),.d (.int .i64 0),.d (.int .i64 0),.d (.int .i64 0),.d (.int .i64 0),.d (.int .i64 0),.d (.int .i64 0),.d (.int .i64 0),.d (.int .i64 0),.d (.int .i64 0),.d (.int .i64 0),.d (.int .i64 0),.d (.int .i64 0),.d (.int .i64 0),.d (.int .i64 0),.d (.int .i64 0),.nil],[.d (.int .i64 v1.2.2.2.Work.e0.X),.d (.int .i64 v1.2.2.2.Work.e0.Y),.d (.int .i64 v1.2.2.2.Work.e0.Z),.d (.int .i64 v1.2.2.2.Work.e1.X),.d (.int .i64 v1.2.2.2.Work.e1.Y),.d (.int .i64 v1.2.2.2.Work.e1.Z),.d (.int .i64 v1.2.2.2.Work.e2.X),.d (.int .i64 v1.2.2.2.Work.e2.Y),.d (.int .i64 v1.2.2.2.Work.e2.Z),.d (.int .i64 v1.2.2.2.Work.e3.X),.d (.int .i64 v1.2.2.2.Work.e3.Y),.d (.int .i64 v1.2.2.2.Work.e3.Z),.d (.int .i64 v1.2.2.2.Work.e4.X),.d (.int .i64 v1.2.2.2.Work.e4.Y),.d (.int .i64 v1.2.2.2.Work.e4.Z),.d (.int .i64 v1.2.2.2.Work.e5.X),.d (.int .i64 v1.2.2.2.Work.e5.Y),.d (.int .i64 v1.2.2.2.Work.e5.Z),.own 0 (List.map encTableLength v1.2.2.2.Lengths)]],[(65,v1.2.2.2.Lengths.length)]⟩) (fun _=>rfl) ?_ ?_)
 refine .bind fun e1 q2=>?_
 replace q2 := gt_ok q2
 simp only [Int.reduceToNat,Int.reduceLT,Nat.sub_zero,dp0] at q2
 refine .ite (fun h14=>?_) (fun h14=>?_)
 refine .region fun e h=>?_
 simp only [seval,EMK,und_70,sz_9,q2,ag_9,und_61,eInt,eStr,h14]
 cases h
 simp only [seval,FMK,eInt,eStr,h14]
 refine .region fun e h=>?_
 simp only [seval,EMK,und_70,sz_9,q2,ag_9,eInt,eStr,h14]
 cases h
 simp only [seval,FMK,eInt,eStr,h14]
 intro v2
 refine Mir.toK (.cond rfl (fun h15=>?_) (fun h15=>?_))
 refine .seqK (.bind fun e2 q3=>?_)
 replace q3 := gt_ok q3
 simp only [Int.reduceToNat,Int.reduceLT,Nat.sub_zero,dp0] at q3
 refine .bind fun y4 h16=>.region fun e h=>?_
 simp only [seval,EMK,und_70,sz_9,zero_9,(oL 6),q3,ag_9,eInt,eStr]
 refine SpecS.by (slices_Index_string_string_spec h16) (by simp only [seval,FMK,eInt,eStr]) ?_
 simp only [seval,EMK,eInt,eStr]
 refine mU e (.seqK (.bind fun e3 q4=>?_)) h
 replace q4 := gt_ok q4
 simp only [Int.reduceToNat,Int.reduceLT,Nat.sub_zero,dp0] at q4
 refine .bind fun e4 q5=>?_
 replace q5 := gt_ok q5
 simp only [Int.reduceToNat,Int.reduceLT,Nat.sub_zero,dp0] at q5
 refine .bind fun e5 q6=>?_
 replace q6 := gt_ok q6
 simp only [Int.reduceToNat,Int.reduceLT,Nat.sub_zero,dp0] at q6
 refine .regionD [] (by kernel_rfl) fun e h=>?_
 simp only [seval,EMK,SB,und_61,sz_2,q4,ag_2,q5,q6,zero_23,pl_23,sz_23,eInt,eStr]
 refine mU e (.seqK (.seqK (.joinV ([.ptr 1 0,U,U,U,U,U,U,U,.d (.int .i64 y4),.ptr 2 0,U,U,U,U,U,U,U,U,U,U,U,U,U,U,U,U,U,U,U,U,U,U,U,U,U,U,U,U,U,U,U,U,U,U,U,U,U,U,U,U,U,U,U,U,U,U,U,U,.d (.bool ((decide (y4 < 0)) || ((e3 == 0) && ((e4 == 0) && (e5 == 0)))))] ++ us 56) ⟨[[.d (.int .i64 0),.d (.int .i64 0),.d (.int .i64 0),.d (.int .i64 0),.d (.int .i64 0),.d (.int .i64 0),.d (.int .i64 0),.d (.int .i64 0),.d (.int .i64 0),.d (.int .i64 0),.d (.int .i64 0),.d (.int .i64 0),.d (.int .i64 0),.d (.int .i64 0),.d (.int .i64 0),.d (.int .i64 0),.d (.int .i64 0),.d (.int .i64 0),.nil],[.d (.int .i64 v1.2.2.2.Work.e0.X),.d (.int .i64 v1.2.2.2.Work.e0.Y),.d (.int .i64 v1.2.2.2.Work.e0.Z),.d (.int .i64 v1.2.2.2.Work.e1.X),.d (.int .i64 v1.2.2.2.Work.e1.Y),.d (.int .i64 v1.2.2.2.Work.e1.Z),.d (.int .i64 v1.2.2.2.Work.e2.X),.d (.int .i64 v1.2.2.2.Work.e2.Y),.d (.int .i64 v1.2.2.2.Work.e2.Z),.d (.int .i64 v1.2.2.2.Work.e3.X),.d (.int .i64 v1.2.2.2.Work.e3.Y),.d (.int .i64 v1.2.2.2.Work.e3.Z),.d (.int .i64 v1.2.2.2.Work.e4.X),.d (.int .i64 v1.2.2.2.Work.e4.Y),.d (.int .i64 v1.2.2.2.Work.e4.Z),.d (.int .i64 v1.2.2.2.Work.e5.X),.d (.int .i64 v1.2.2.2.Work.e5.Y),.d (.int .i64 v1.2.2.2.Work.e5.Z),.own 0 (List.map encTableLength v1.2.2.2.Lengths)],[.d (.int .i64 e3),.d (.int .i64 e4),.d (.int .i64 e5)]],[(65,v1.2.2.2.Lengths.length)]⟩ rfl ?_ ?_))) h
 refine SWs.region ?_
 rcases Bool.eq_false_or_eq_true (decide (y4 < 0)) with h17 | h17
 simp only [seval,EMK,SL,PB,h17,eInt,eStr]
 simp only [seval,EMK,SL,PB,ag_23,sz_23,zero_23,pl_23,gE_23,h17,eInt,eStr]
 refine Mir.toK (.cond rfl (fun h18=>?_) (fun h18=>?_))
 refine .sR fun e h=>?_
 simp only [seval,EMK,eInt,eStr]
 refine mU e (.ret fun e h=>?_) h
 cases h
 simp only [seval,FMK,eInt,eStr,Tryz.results27]
 refine .skip (Mir.toK (.seqK (Mir.joinO (fun v3 : TableTable=>([U,U,U,U,U,U,U,U,.d (.int .i64 y4)] ++ us 106)) (fun v3=>⟨[[.d (.int .i64 0),.d (.int .i64 0),.d (.int .i64 0),.d (.int .i64 0),.d (.int .i64 0),.d (.int .i64 0),.d (.int .i64 0),.d (.int .i64 0),.d (.int .i64 0),.d (.int .i64 0),.d (.int .i64 0),.d (.int .i64 0),.d (.int .i64 0),.d (.int .i64 0),.d (.int .i64 0),.d (.int .i64 0),.d (.int .i64 0),.d (.int .i64 0),.nil],[.d (.int .i64 v3.Work.e0.X),.d (.int .i64 v3.Work.e0.Y),.d (.int .i64 v3.Work.e0.Z),.d (.int .i64 v3.Work.e1.X),.d (.int .i64 v3.Work.e1.Y),.d (.int .i64 v3.Work.e1.Z),.d (.int .i64 v3.Work.e2.X),.d (.int .i64 v3.Work.e2.Y),.d (.int .i64 v3.Work.e2.Z),.d (.int .i64 v3.Work.e3.X),.d (.int .i64 v3.Work.e3.Y),.d (.int .i64 v3.Work.e3.Z),.d (.int .i64 v3.Work.e4.X),.d (.int .i64 v3.Work.e4.Y),.d (.int .i64 v3.Work.e4.Z),.d (.int .i64 v3.Work.e5.X),.d (.int .i64 v3.Work.e5.Y),.d (.int .i64 v3.Work.e5.Z),.own 0 (List.map encTableLength v3.Lengths)],[.d (.int .i64 e3),.d (.int .i64 e4),.d (.int .i64 e5)]],[(65,v3.Lengths.length)]⟩) (fun _=>rfl) ?_ ?_)))
 refine .guard fun q7=>.ite (fun h19=>?_) (fun h19=>?_)
 refine .regionD [] (by kernel_rfl) fun e h=>?_
 simp only [seval,EMK,SB,ag_23,sz_23,fld_34_0,sz_24,und_24,(eq_of_beq h19),eInt,eStr,h19]
 cases h
 simp only [seval,FMK,eInt,eStr,h19]
 refine .ite (fun h20=>?_) (fun h20=>?_)
 refine .regionD [] (by kernel_rfl) fun e h=>?_
 simp only [seval,EMK,SB,ag_23,sz_23,fld_34_0,sz_24,und_24,(eq_of_beq h20),eInt,eStr,h19,h20]
 cases h
 simp only [seval,FMK,eInt,eStr,h19,h20]
 refine .ite (fun h21=>?_) (fun h21=>?_)
 refine .regionD [] (by kernel_rfl) fun e h=>?_
 simp only [seval,EMK,SB,ag_23,sz_23,fld_34_0,sz_24,und_24,(eq_of_beq h21),eInt,eStr,h19,h20,h21]
 cases h
 simp only [seval,FMK,eInt,eStr,h19,h20,h21]
 refine .ite (fun h22=>?_) (fun h22=>?_)
 refine .regionD [] (by kernel_rfl) fun e h=>?_
 simp only [seval,EMK,SB,ag_23,sz_23,fld_34_0,sz_24,und_24,(eq_of_beq h22),eInt,eStr,h19,h20,h21,h22]
 cases h
 simp only [seval,FMK,eInt,eStr,h19,h20,h21,h22]
 refine .ite (fun h23=>?_) (fun h23=>?_)
 refine .regionD [] (by kernel_rfl) fun e h=>?_
 simp only [seval,EMK,SB,ag_23,sz_23,fld_34_0,sz_24,und_24,(eq_of_beq h23),eInt,eStr,h19,h20,h21,h22,h23]
 cases h
 simp only [seval,FMK,eInt,eStr,h19,h20,h21,h22,h23]
 have h24 : y4 = 5 := by have h0 := of_decide_eq_true q7; have h1 := ne_of_beq_false h19; have h2 := ne_of_beq_false h20; have h3 := ne_of_beq_false h21; have h4 := ne_of_beq_false h22; have h5 := ne_of_beq_false h23; omega
 refine .regionD [] (by kernel_rfl) fun e h=>?_
 simp only [seval,EMK,SB,ag_23,sz_23,fld_34_0,sz_24,und_24,h24,eInt,eStr,h19,h20,h21,h22,h23]
 cases h
 simp only [seval,FMK,eInt,eStr,h19,h20,h21,h22,h23]
 intro v3
 refine Mir.toK (.sR fun e h=>?_)
 simp only [seval,EMK,eInt,eStr]
 refine mU e (.ret fun e h=>?_) h
 cases h
 simp only [seval,FMK,eInt,eStr,Tryz.results27]
 refine .seqK (Mir.joinO (fun v4 : Bool=>([.ptr 1 0,U,U,U,U,.d (.list (List.map eStr y2)),.d (.list (List.map (eInt .i64) y3.1)),U,U,U,U,U,U,U,U,U,U,U,U,U,U,U,U,U,U,U,U,U,U,U,U,U,U,U,U,U,U,U,U,U,U,U,U,U,U,U,U,U,U,U,U,U,U,U,U,U,U,U,U,U,U,U,U,U,U,U,.d (.bool v4)] ++ us 48)) (fun v4=>⟨[[.d (.int .i64 0),.d (.int .i64 0),.d (.int .i64 0),.d (.int .i64 0),.d (.int .i64 0),.d (.int .i64 0),.d (.int .i64 0),.d (.int .i64 0),.d (.int .i64 0),.d (.int .i64 0),.d (.int .i64 0),.d (.int .i64 0),.d (.int .i64 0),.d (.int .i64 0),.d (.int .i64 0),.d (.int .i64 0),.d (.int .i64 0),.d (.int .i64 0),.nil],[.d (.int .i64 v1.2.2.2.Work.e0.X),.d (.int .i64 v1.2.2.2.Work.e0.Y),.d (.int .i64 v1.2.2.2.Work.e0.Z),.d (.int .i64 v1.2.2.2.Work.e1.X),.d (.int .i64 v1.2.2.2.Work.e1.Y),.d (.int .i64 v1.2.2.2.Work.e1.Z),.d (.int .i64 v1.2.2.2.Work.e2.X),.d (.int .i64 v1.2.2.2.Work.e2.Y),.d (.int .i64 v1.2.2.2.Work.e2.Z),.d (.int .i64 v1.2.2.2.Work.e3.X),.d (.int .i64 v1.2.2.2.Work.e3.Y),.d (.int .i64 v1.2.2.2.Work.e3.Z),.d (.int .i64 v1.2.2.2.Work.e4.X),.d (.int .i64 v1.2.2.2.Work.e4.Y),.d (.int .i64 v1.2.2.2.Work.e4.Z),.d (.int .i64 v1.2.2.2.Work.e5.X),.d (.int .i64 v1.2.2.2.Work.e5.Y),.d (.int .i64 v1.2.2.2.Work.e5.Z),.own 0 (List.map encTableLength v1.2.2.2.Lengths)]],[(65,v1.2.2.2.Lengths.length)]⟩) (fun _=>rfl) ?_ ?_)
 refine .bind fun e6 q8=>?_
 replace q8 := gt_ok q8
 simp only [Int.reduceToNat,Int.reduceLT,Nat.sub_zero,dp0] at q8
 refine .ite (fun h25=>?_) (fun h25=>?_)
 refine .region fun e h=>?_
 simp only [seval,EMK,und_70,sz_9,q8,ag_9,und_61,eInt,eStr,h25]
 cases h
 simp only [seval,FMK,eInt,eStr,h25]
 refine .region fun e h=>?_
 simp only [seval,EMK,und_70,sz_9,q8,ag_9,eInt,eStr,h25]
 cases h
 simp only [seval,FMK,eInt,eStr,h25]
 intro v4
 refine Mir.toK (.cond rfl (fun h26=>?_) (fun h26=>?_))
 refine .seqK (.bind fun e7 q9=>?_)
 replace q9 := gt_ok q9
 simp only [Int.reduceToNat,Int.reduceLT,Nat.sub_zero,dp0] at q9
 refine .bind fun y5 h27=>.region fun e h=>?_
 simp only [seval,EMK,und_70,sz_9,q9,ag_9,eInt,eStr]
 refine SpecE.by (strconv_ParseIntE_spec h27) rfl (fun t1 p1=>?_)
 simp only [seval,EMK,eInt,eStr]
 refine mU e (.seqK (.bind fun e8 q10=>?_)) h
 replace q10 := gt_ok q10
 simp only [Int.reduceToNat,Int.reduceLT,Nat.sub_zero,dp0] at q10
 refine .region fun e h=>?_
 simp only [seval,EMK,und_61,sz_2,q10,ag_2,zero_65,pl_65,sz_65,eInt,eStr]
 refine mU e (.seqK (.seqK (Mir.joinO (fun v5 : Bool=>([.ptr 1 0,U,U,U,U,U,U,U,U,U,.d (.int .i64 y5.1),U,.ptr 2 0,U,U,U,U,U,U,U,U,U,U,U,U,U,U,U,U,U,U,U,U,U,U,U,U,U,U,U,U,U,U,U,U,U,U,U,U,U,U,U,U,U,U,U,U,U,U,U,U,U,U,U,U,U,U,U,U,U,U,U,U,U,U,U,U,U,U,U,U,U,U,U,U,U,U,U,U,U,U,U,U,U,U,U,U,U,U,U,U,U,.d (.bool v5)] ++ us 12)) (fun v5=>⟨[[.d (.int .i64 0),.d (.int .i64 0),.d (.int .i64 0),.d (.int .i64 0),.d (.int .i64 0),.d (.int .i64 0),.d (.int .i64 0),.d (.int .i64 0),.d (.int .i64 0),.d (.int .i64 0),.d (.int .i64 0),.d (.int .i64 0),.d (.int .i64 0),.d (.int .i64 0),.d (.int .i64 0),.d (.int .i64 0),.d (.int .i64 0),.d (.int .i64 0),.nil],[.d (.int .i64 v1.2.2.2.Work.e0.X),.d (.int .i64 v1.2.2.2.Work.e0.Y),.d (.int .i64 v1.2.2.2.Work.e0.Z),.d (.int .i64 v1.2.2.2.Work.e1.X),.d (.int .i64 v1.2.2.2.Work.e1.Y),.d (.int .i64 v1.2.2.2.Work.e1.Z),.d (.int .i64 v1.2.2.2.Work.e2.X),.d (.int .i64 v1.2.2.2.Work.e2.Y),.d (.int .i64 v1.2.2.2.Work.e2.Z),.d (.int .i64 v1.2.2.2.Work.e3.X),.d (.int .i64 v1.2.2.2.Work.e3.Y),.d (.int .i64 v1.2.2.2.Work.e3.Z),.d (.int .i64 v1.2.2.2.Work.e4.X),.d (.int .i64 v1.2.2.2.Work.e4.Y),.d (.int .i64 v1.2.2.2.Work.e4.Z),.d (.int .i64 v1.2.2.2.Work.e5.X),.d (.int .i64 v1.2.2.2.Work.e5.Y),.d (.int .i64 v1.2.2.2.Work.e5.Z),.own 0 (List.map encTableLength v1.2.2.2.Lengths)],[.d (.int .i64 y5.1),.d (.int .i64 e8)]],[(65,v1.2.2.2.Lengths.length)]⟩) (fun _=>rfl) ?_ ?_))) h
 refine .ite (fun h28=>?_) (fun h28=>?_)
 refine .bind fun y6 h29=>.ite (fun h30=>?_) (fun h30=>?_)
 refine .bind fun y7 h31=>.regionD [] (by kernel_rfl) fun e h=>?_
 simp only [seval,EMK,SB,bx_ne,(nr (by kernel_rfl) : ifaceT Tryz.prog 57 = true),eInt,eStr,h28,h30]
 refine Spec.by (strconv_FormatInt_spec h29) (by simp only [seval,FMK,eInt,eStr,h28,h30]) ?_
 simp only [seval,EMK,SB,und_70,sz_9,q9,ag_9,ag_65,sz_65,eInt,eStr,h28,h30]
 refine Spec.by (tb_entry_spec h31) (by simp only [seval,FMK,eInt,eStr,h28,h30]) ?_
 simp only [seval,EMK,SB,eInt,eStr,h28,h30]
 cases h
 simp only [seval,FMK,eInt,eStr,h28,h30]
 refine .regionD [] (by kernel_rfl) fun e h=>?_
 simp only [seval,EMK,SB,bx_ne,(nr (by kernel_rfl) : ifaceT Tryz.prog 57 = true),eInt,eStr,h28,h30]
 refine Spec.by (strconv_FormatInt_spec h29) (by simp only [seval,FMK,eInt,eStr,h28,h30]) ?_
 simp only [seval,EMK,SB,und_70,sz_9,q9,ag_9,eInt,eStr,h28,h30]
 cases h
 simp only [seval,FMK,eInt,eStr,h28,h30]
 refine .regionD [] (by kernel_rfl) fun e h=>?_
 simp only [seval,EMK,SB,bx_ne,(nr (by kernel_rfl) : ifaceT Tryz.prog 57 = true),eInt,eStr,h28]
 cases h
 simp only [seval,FMK,eInt,eStr,h28]
 intro v5
 refine Mir.toK (.cond rfl (fun h32=>?_) (fun h32=>?_))
 refine .sR fun e h=>?_
 simp only [seval,EMK,eInt,eStr]
 refine mU e (.ret fun e h=>?_) h
 cases h
 simp only [seval,FMK,eInt,eStr,Tryz.results27]
 refine .skip (Mir.toK (.seqK (.guard fun q11=>.regionD [] (by kernel_rfl) fun e h=>?_)))
 simp only [seval,EMK,SB,fld_34_1,sz_32,ag_32,ag_65,sz_65,und_32,zero_65,(oL 2),app_32,al_TableLength,q11,eInt,eStr]
 refine mU e (.sR fun e h=>?_) h
 simp only [seval,EMK,eInt,eStr]
 refine mU e (.ret fun e h=>?_) h
 cases h
 simp only [seval,FMK,eInt,eStr,Tryz.results27]
 refine .skip (Mir.toB (Mir.toK (.sR fun e h=>?_)))
 simp only [seval,EMK,eInt,eStr]
 refine mU e (.ret fun e h=>?_) h
 cases h
 simp only [seval,FMK,eInt,eStr,Tryz.results27]
 simp only [seval,EMK,eInt,eStr]
 cases h
 simp only [seval,FMK,eInt,eStr,Tryz.results9,ag_34,sz_34]
 refine .skip fun e h=>?_
 cases h
 simp only [seval,FMK,eInt,eStr,Tryz.results9,ag_34,sz_34]
 intro v7
 refine Mir.toK (.seqK (.sR fun e h=>?_))
 simp only [seval,EMK,eInt,eStr]
 refine mU e (.cond rfl (fun h33=>?_) (fun h33=>?_)) h
 refine .sR fun e h=>?_
 simp only [seval,EMK,zero_34,pl_34,sz_34,eInt,eStr]
 refine mU e (.ret fun e h=>?_) h
 cases h
 simp only [seval,FMK,eInt,eStr,Tryz.results9,ag_34,sz_34]
 refine .skip (Mir.toK (.region fun e h=>?_))
 simp only [seval,EMK,eInt,eStr]
 refine mU e (.region fun e h=>?_) h
 simp only [seval,EMK,eInt,eStr]
 cases h
 simp only [seval,FMK,eInt,eStr,Tryz.results9,ag_34,sz_34]
 refine .exit fun e h=>?_
 cases h
 simp only [seval,FMK,eInt,eStr,Tryz.results9,ag_34,sz_34]
 intro v8
 refine Mir.toK (.sR fun e h=>?_)
 simp only [seval,EMK,ag_34,sz_34,eInt,eStr]
 refine mU e (.ret fun e h=>?_) h
 cases h
 simp only [seval,FMK,eInt,eStr,Tryz.results9,ag_34,sz_34]
def r45_far (a0 : Int) : Option Bool := some ((decide (a0 > 10000000)) || (decide (a0 < (-10000000))))
theorem r45_far_spec {a0 : Int} {y : Bool} (h : r45_far a0 = some y) : Spec gP 74 [.d (.int .i64 a0)] (.d (.bool y)) := by
 refine spec_mir Tryz.func74 rfl (by kernel_rfl) (by kernel_rfl) (fun y : Bool=>.d (.bool y)) ?_ h
 unfold r45_far
 simp only [List.replicate,List.length,nS,nA,Tryz.ntmps74,SV]
 refine .sR fun e h=>?_
 simp only [seval,EMK]
 refine mU e (.seqK (.joinV ([U,U,.d (.bool ((decide (a0 > 10000000)) || (decide (a0 < (-10000000)))))] ++ us 6) ⟨[],[]⟩ rfl ?_ ?_)) h
 refine SWs.region ?_
 rcases Bool.eq_false_or_eq_true (decide (a0 > 10000000)) with hb1 | hb1
 simp only [seval,EMK,SL,PB,hb1]
 simp only [seval,EMK,SL,PB,hb1]
 refine Mir.toK (.ret fun e h=>?_)
 cases h
 simp only [seval,FMK,Tryz.results74]
def r45_out (a0 : ApiPos) : Option Bool := bindO (bindO (r45_far a0.X) fun (y1 : Bool)=>if y1 = true then some true else bindO (r45_far a0.Y) fun (y2 : Bool)=>if y2 = true then some true else bindO (r45_far a0.Z) fun (y3 : Bool)=>some y3) fun (v1 : Bool)=>some v1
theorem r45_out_spec {a0 : ApiPos} {y : Bool} (h : r45_out a0 = some y) : Spec gP 43 [.agg [.d (.int .i64 a0.X),.d (.int .i64 a0.Y),.d (.int .i64 a0.Z)]] (.d (.bool y)) := by
 refine spec_mir Tryz.func43 rfl (by kernel_rfl) (by kernel_rfl) (fun y : Bool=>.d (.bool y)) ?_ h
 unfold r45_out
 simp only [List.replicate,List.length,nS,nA,Tryz.ntmps43,SV]
 refine .sR fun e h=>?_
 simp only [seval,EMK]
 refine mU e (.seqK (Mir.joinO (fun v1 : Bool=>([U,U,.d (.bool v1)] ++ us 13)) (fun v1=>⟨[[.d (.int .i64 a0.X),.d (.int .i64 a0.Y),.d (.int .i64 a0.Z)]],[]⟩) (fun _=>rfl) ?_ ?_)) h
 refine .bind fun y1 hy1=>.ite (fun hb2=>?_) (fun hb2=>?_)
 refine .region fun e h=>?_
 simp only [seval,EMK,fld_23_0,sz_2,ag_2,hb2]
 refine SpecS.by (r45_far_spec hy1) (by simp only [seval,FMK,hb2]) ?_
 simp only [seval,EMK,hb2]
 cases h
 simp only [seval,FMK,hb2]
 refine .bind fun y2 hy3=>.ite (fun hb4=>?_) (fun hb4=>?_)
 refine .region fun e h=>?_
 simp only [seval,EMK,fld_23_0,sz_2,ag_2,hb2,hb4]
 refine SpecS.by (r45_far_spec hy1) (by simp only [seval,FMK,hb2,hb4]) ?_
 simp only [seval,EMK,fld_23_1,sz_2,ag_2,hb2,hb4]
 refine SpecS.by (r45_far_spec hy3) (by simp only [seval,FMK,hb2,hb4]) ?_
 simp only [seval,EMK,hb2,hb4]
 cases h
 simp only [seval,FMK,hb2,hb4]
 refine .bind fun y3 hy5=>.region fun e h=>?_
 simp only [seval,EMK,fld_23_0,sz_2,ag_2,hb2,hb4]
 refine SpecS.by (r45_far_spec hy1) (by simp only [seval,FMK,hb2,hb4]) ?_
 simp only [seval,EMK,fld_23_1,sz_2,ag_2,hb2,hb4]
 refine SpecS.by (r45_far_spec hy3) (by simp only [seval,FMK,hb2,hb4]) ?_
 simp only [seval,EMK,fld_23_2,sz_2,ag_2,hb2,hb4]
 refine SpecS.by (r45_far_spec hy5) (by simp only [seval,FMK,hb2,hb4]) ?_
 simp only [seval,EMK,hb2,hb4]
 cases h
 simp only [seval,FMK,hb2,hb4]
 intro v1
 refine Mir.toK (.ret fun e h=>?_)
 cases h
 simp only [seval,FMK,Tryz.results43]
def r45_entry (a0 : R45Length) : Option Bool := some ((decide (a0.Number ≥ 1)) && ((decide (a0.Number ≤ 999)) && ((decide (a0.Length ≥ 0)) && (decide (a0.Length ≤ 10000000)))))
theorem r45_entry_spec {a0 : R45Length} {y : Bool} (h : r45_entry a0 = some y) : Spec gP 44 [.agg [.d (.int .i64 a0.Number),.d (.int .i64 a0.Length)]] (.d (.bool y)) := by
 refine spec_mir Tryz.func44 rfl (by kernel_rfl) (by kernel_rfl) (fun y : Bool=>.d (.bool y)) ?_ h
 unfold r45_entry
 simp only [List.replicate,List.length,nS,nA,Tryz.ntmps44,SV]
 refine .sR fun e h=>?_
 simp only [seval,EMK]
 refine mU e (.seqK (.joinV ([U,U,.d (.bool ((decide (a0.Number ≥ 1)) && ((decide (a0.Number ≤ 999)) && ((decide (a0.Length ≥ 0)) && (decide (a0.Length ≤ 10000000))))))] ++ us 18) ⟨[[.d (.int .i64 a0.Number),.d (.int .i64 a0.Length)]],[]⟩ rfl ?_ ?_)) h
 refine SWs.region ?_
 rcases Bool.eq_false_or_eq_true (decide (a0.Number ≥ 1)) with hb1 | hb1
 rcases Bool.eq_false_or_eq_true (decide (a0.Number ≤ 999)) with hb2 | hb2
 rcases Bool.eq_false_or_eq_true (decide (a0.Length ≥ 0)) with hb3 | hb3
 simp only [seval,EMK,SL,PB,fld_68_0,sz_2,ag_2,fld_68_1,hb1,hb2,hb3]
 simp only [seval,EMK,SL,PB,fld_68_0,sz_2,ag_2,fld_68_1,hb1,hb2,hb3]
 simp only [seval,EMK,SL,PB,fld_68_0,sz_2,ag_2,hb1,hb2]
 simp only [seval,EMK,SL,PB,fld_68_0,sz_2,ag_2,hb1]
 refine Mir.toK (.ret fun e h=>?_)
 cases h
 simp only [seval,FMK,Tryz.results44]
def r45_Valid (a0 : R45Table) : Option Int := bindX (bindO (r45_out a0.Work.e0) fun (y1 : Bool)=>if y1 = true then some (.ret 1) else bindO (r45_out a0.Work.e1) fun (y2 : Bool)=>if y2 = true then some (.ret 1) else bindO (r45_out a0.Work.e2) fun (y3 : Bool)=>if y3 = true then some (.ret 1) else bindO (r45_out a0.Work.e3) fun (y4 : Bool)=>if y4 = true then some (.ret 1) else bindO (r45_out a0.Work.e4) fun (y5 : Bool)=>if y5 = true then some (.ret 1) else bindO (r45_out a0.Work.e5) fun (y6 : Bool)=>if y6 = true then some (.ret 1) else some (.go ())) fun (v1 : Unit)=>bindX (guardO (okIdx a0.Lengths) ( rangeX (fun (i1 : Nat) (e1 : R45Length) (v2 : Unit)=>bindO (bindO (r45_entry e1) fun (y7 : Bool)=>if y7 = true then if (decide ((i1 : Int) > 0)) = true then bindO (gt a0.Lengths (IntKind.i64.wrap ((i1 : Int) - 1))) fun (e2 : R45Length)=>some (decide (e1.Number ≤ e2.Number)) else some false else some true) fun (v3 : Bool)=>if v3 = true then some (.ret (.ret 1)) else some (.go ())) (fun (v2 : Unit)=>some (.go ())) a0.Lengths 0 ())) fun (v4 : Unit)=>some 0
theorem r45_Valid_spec {a0 : R45Table} {y : Int} (h : r45_Valid a0 = some y) : Spec gP 24 [.agg [.d (.int .i64 a0.Work.e0.X),.d (.int .i64 a0.Work.e0.Y),.d (.int .i64 a0.Work.e0.Z),.d (.int .i64 a0.Work.e1.X),.d (.int .i64 a0.Work.e1.Y),.d (.int .i64 a0.Work.e1.Z),.d (.int .i64 a0.Work.e2.X),.d (.int .i64 a0.Work.e2.Y),.d (.int .i64 a0.Work.e2.Z),.d (.int .i64 a0.Work.e3.X),.d (.int .i64 a0.Work.e3.Y),.d (.int .i64 a0.Work.e3.Z),.d (.int .i64 a0.Work.e4.X),.d (.int .i64 a0.Work.e4.Y),.d (.int .i64 a0.Work.e4.Z),.d (.int .i64 a0.Work.e5.X),.d (.int .i64 a0.Work.e5.Y),.d (.int .i64 a0.Work.e5.Z),.d (.list (List.map encR45Length a0.Lengths))]] (.d (.int .i64 y)) := by
 refine spec_mir Tryz.func24 rfl (by kernel_rfl) (by kernel_rfl) (fun y : Int=>.d (.int .i64 y)) ?_ h
 unfold r45_Valid
 simp only [List.replicate,List.length,nS,nA,Tryz.ntmps24,SV]
 refine .sR fun e h=>?_
 simp only [seval,EMK]
 refine mU e (.seqK (.sR fun e h=>?_)) h
 simp only [seval,EMK]
 refine mU e (Mir.join (fun v1 : Unit=>([U,.ptr 0 0] ++ us 46)) (fun v1=>⟨[[.d (.int .i64 a0.Work.e0.X),.d (.int .i64 a0.Work.e0.Y),.d (.int .i64 a0.Work.e0.Z),.d (.int .i64 a0.Work.e1.X),.d (.int .i64 a0.Work.e1.Y),.d (.int .i64 a0.Work.e1.Z),.d (.int .i64 a0.Work.e2.X),.d (.int .i64 a0.Work.e2.Y),.d (.int .i64 a0.Work.e2.Z),.d (.int .i64 a0.Work.e3.X),.d (.int .i64 a0.Work.e3.Y),.d (.int .i64 a0.Work.e3.Z),.d (.int .i64 a0.Work.e4.X),.d (.int .i64 a0.Work.e4.Y),.d (.int .i64 a0.Work.e4.Z),.d (.int .i64 a0.Work.e5.X),.d (.int .i64 a0.Work.e5.Y),.d (.int .i64 a0.Work.e5.Z),.d (.list (List.map encR45Length a0.Lengths))]],[]⟩) (fun _=>rfl) ?_ ?_) h
 refine .block (.loopR 15 (.seqK (.sR fun e h=>?_)))
 simp only [seval,EMK]
 refine mU e (.condT rfl (.skip (Mir.toK (.seqK (.block (.seqK (.bind fun y1 hy33=>.region fun e h=>?_))))))) h
 simp only [seval,EMK,fld_27_0,sz_24,und_24,sz_23,ag_23]
 refine SpecS.by (r45_out_spec hy33) (by simp only [seval,FMK]) ?_
 simp only [seval,EMK]
 refine mU e (.cond rfl (fun hb35=>?_) (fun hb35=>?_)) h
 refine .sR fun e h=>?_
 simp only [seval,EMK]
 refine mU e (.ret fun e h=>?_) h
 cases h
 simp only [seval,FMK,Tryz.results24]
 refine .skip (Mir.toB (Mir.toK (.region fun e h=>?_)))
 simp only [seval,EMK,(nr rfl : IntKind.i64.wrap 1 = 1)]
 refine Mir.useN (e := e) ?_ h
 refine .seqK (.sR fun e h=>?_)
 simp only [seval,EMK]
 refine mU e (.condT rfl (.skip (Mir.toK (.seqK (.block (.seqK (.bind fun y2 hy38=>.region fun e h=>?_))))))) h
 simp only [seval,EMK,fld_27_0,sz_24,und_24,sz_23,ag_23]
 refine SpecS.by (r45_out_spec hy38) (by simp only [seval,FMK]) ?_
 simp only [seval,EMK]
 refine mU e (.cond rfl (fun hb40=>?_) (fun hb40=>?_)) h
 refine .sR fun e h=>?_
 simp only [seval,EMK]
 refine mU e (.ret fun e h=>?_) h
 cases h
 simp only [seval,FMK,Tryz.results24]
 refine .skip (Mir.toB (Mir.toK (.region fun e h=>?_)))
 simp only [seval,EMK,(nr rfl : IntKind.i64.wrap 2 = 2)]
 refine Mir.useN (e := e) ?_ h
 refine .seqK (.sR fun e h=>?_)
 simp only [seval,EMK]
 refine mU e (.condT rfl (.skip (Mir.toK (.seqK (.block (.seqK (.bind fun y3 hy43=>.region fun e h=>?_))))))) h
 simp only [seval,EMK,fld_27_0,sz_24,und_24,sz_23,ag_23]
 refine SpecS.by (r45_out_spec hy43) (by simp only [seval,FMK]) ?_
 simp only [seval,EMK]
 refine mU e (.cond rfl (fun hb45=>?_) (fun hb45=>?_)) h
 refine .sR fun e h=>?_
 simp only [seval,EMK]
 refine mU e (.ret fun e h=>?_) h
 cases h
 simp only [seval,FMK,Tryz.results24]
 refine .skip (Mir.toB (Mir.toK (.region fun e h=>?_)))
 simp only [seval,EMK,(nr rfl : IntKind.i64.wrap 3 = 3)]
 refine Mir.useN (e := e) ?_ h
 refine .seqK (.sR fun e h=>?_)
 simp only [seval,EMK]
 refine mU e (.condT rfl (.skip (Mir.toK (.seqK (.block (.seqK (.bind fun y4 hy48=>.region fun e h=>?_))))))) h
 simp only [seval,EMK,fld_27_0,sz_24,und_24,sz_23,ag_23]
 refine SpecS.by (r45_out_spec hy48) (by simp only [seval,FMK]) ?_
 simp only [seval,EMK]
 refine mU e (.cond rfl (fun hb50=>?_) (fun hb50=>?_)) h
 refine .sR fun e h=>?_
 simp only [seval,EMK]
 refine mU e (.ret fun e h=>?_) h
 cases h
 simp only [seval,FMK,Tryz.results24]
 refine .skip (Mir.toB (Mir.toK (.region fun e h=>?_)))
 simp only [seval,EMK,(nr rfl : IntKind.i64.wrap 4 = 4)]
 refine Mir.useN (e := e) ?_ h
 refine .seqK (.sR fun e h=>?_)
 simp only [seval,EMK]
 refine mU e (.condT rfl (.skip (Mir.toK (.seqK (.block (.seqK (.bind fun y5 hy53=>.region fun e h=>?_))))))) h
 simp only [seval,EMK,fld_27_0,sz_24,und_24,sz_23,ag_23]
 refine SpecS.by (r45_out_spec hy53) (by simp only [seval,FMK]) ?_
 simp only [seval,EMK]
 refine mU e (.cond rfl (fun hb55=>?_) (fun hb55=>?_)) h
 refine .sR fun e h=>?_
 simp only [seval,EMK]
 refine mU e (.ret fun e h=>?_) h
 cases h
 simp only [seval,FMK,Tryz.results24]
 refine .skip (Mir.toB (Mir.toK (.region fun e h=>?_)))
 simp only [seval,EMK,(nr rfl : IntKind.i64.wrap 5 = 5)]
 refine Mir.useN (e := e) ?_ h
 refine .seqK (.sR fun e h=>?_)
 simp only [seval,EMK]
 refine mU e (.condT rfl (.skip (Mir.toK (.seqK (.block (.seqK (.bind fun y6 hy58=>.region fun e h=>?_))))))) h
 simp only [seval,EMK,fld_27_0,sz_24,und_24,sz_23,ag_23]
 refine SpecS.by (r45_out_spec hy58) (by simp only [seval,FMK]) ?_
 simp only [seval,EMK]
 refine mU e (.cond rfl (fun hb60=>?_) (fun hb60=>?_)) h
 refine .sR fun e h=>?_
 simp only [seval,EMK]
 refine mU e (.ret fun e h=>?_) h
 cases h
 simp only [seval,FMK,Tryz.results24]
 refine .skip (Mir.toB (Mir.toK (.region fun e h=>?_)))
 simp only [seval,EMK,(nr rfl : IntKind.i64.wrap 6 = 6)]
 refine Mir.useN (e := e) ?_ h
 refine .seqK (.sR fun e h=>?_)
 simp only [seval,EMK]
 refine mU e (.condF rfl (.exit fun e h=>?_)) h
 cases h
 simp only [seval,FMK,Tryz.results24]
 intro v1
 refine Mir.toK (.seqK (.sR fun e h=>?_))
 simp only [seval,EMK]
 refine mU e (Mir.join (fun v4 : Unit=>(us 48)) (fun v4=>⟨[[.d (.int .i64 a0.Work.e0.X),.d (.int .i64 a0.Work.e0.Y),.d (.int .i64 a0.Work.e0.Z),.d (.int .i64 a0.Work.e1.X),.d (.int .i64 a0.Work.e1.Y),.d (.int .i64 a0.Work.e1.Z),.d (.int .i64 a0.Work.e2.X),.d (.int .i64 a0.Work.e2.Y),.d (.int .i64 a0.Work.e2.Z),.d (.int .i64 a0.Work.e3.X),.d (.int .i64 a0.Work.e3.Y),.d (.int .i64 a0.Work.e3.Z),.d (.int .i64 a0.Work.e4.X),.d (.int .i64 a0.Work.e4.Y),.d (.int .i64 a0.Work.e4.Z),.d (.int .i64 a0.Work.e5.X),.d (.int .i64 a0.Work.e5.Y),.d (.int .i64 a0.Work.e5.Z),.d (.list (List.map encR45Length a0.Lengths))]],[]⟩) (fun _=>rfl) ?_ ?_) h
 refine .block (.guard fun q1=>Mir.range (fun (i1 : Nat) (v2 : Unit)=>([U,.ptr 0 0,U,U,.d (.int .i64 (i1 : Int))] ++ us 43)) (fun i1 v2=>⟨[[.d (.int .i64 a0.Work.e0.X),.d (.int .i64 a0.Work.e0.Y),.d (.int .i64 a0.Work.e0.Z),.d (.int .i64 a0.Work.e1.X),.d (.int .i64 a0.Work.e1.Y),.d (.int .i64 a0.Work.e1.Z),.d (.int .i64 a0.Work.e2.X),.d (.int .i64 a0.Work.e2.Y),.d (.int .i64 a0.Work.e2.Z),.d (.int .i64 a0.Work.e3.X),.d (.int .i64 a0.Work.e3.Y),.d (.int .i64 a0.Work.e3.Z),.d (.int .i64 a0.Work.e4.X),.d (.int .i64 a0.Work.e4.Y),.d (.int .i64 a0.Work.e4.Z),.d (.int .i64 a0.Work.e5.X),.d (.int .i64 a0.Work.e5.Y),.d (.int .i64 a0.Work.e5.Z),.d (.list (List.map encR45Length a0.Lengths))]],[]⟩) q1 (fun _ _=>rfl) (by simp only [seval,FMK,zNI]) (by simp only [seval,FMK,zNI]) ?_ ?_)
 intro i1 e1 v2 q2
 refine .seqK (.sR fun e h=>?_)
 simp only [seval,EMK,fld_27_1,sz_25,ag_25,und_25,q2]
 refine mU e (.condT rfl (.skip (Mir.toK (.seqK (.block (.seqK (Mir.joinO (fun v3 : Bool=>[U,.ptr 0 0,U,U,.d (.int .i64 (i1 : Int)),U,U,U,U,U,U,U,U,U,U,U,U,U,U,U,U,U,U,U,U,U,U,U,U,U,U,U,U,U,U,U,U,U,U,U,U,U,U,U,U,U,U,.d (.bool v3)]) (fun v3=>⟨[[.d (.int .i64 a0.Work.e0.X),.d (.int .i64 a0.Work.e0.Y),.d (.int .i64 a0.Work.e0.Z),.d (.int .i64 a0.Work.e1.X),.d (.int .i64 a0.Work.e1.Y),.d (.int .i64 a0.Work.e1.Z),.d (.int .i64 a0.Work.e2.X),.d (.int .i64 a0.Work.e2.Y),.d (.int .i64 a0.Work.e2.Z),.d (.int .i64 a0.Work.e3.X),.d (.int .i64 a0.Work.e3.Y),.d (.int .i64 a0.Work.e3.Z),.d (.int .i64 a0.Work.e4.X),.d (.int .i64 a0.Work.e4.Y),.d (.int .i64 a0.Work.e4.Z),.d (.int .i64 a0.Work.e5.X),.d (.int .i64 a0.Work.e5.Y),.d (.int .i64 a0.Work.e5.Z),.d (.list (List.map encR45Length a0.Lengths))]],[]⟩) (fun _=>rfl) ?_ ?_))))))) h
 refine .bind fun y7 h1=>.ite (fun h2=>?_) (fun h2=>?_)
 refine .ite (fun h3=>?_) (fun h3=>?_)
 refine .bind fun e2 q3=>?_
 replace q3 := gt_ok q3
 refine .regionD [] (by kernel_rfl) fun e h=>?_
 simp only [seval,EMK,SB,fld_27_1,sz_25,ag_25,und_25,sz_68,q2,Int.toNat_natCast,ag_68,h2,h3]
 refine Spec.by (r45_entry_spec h1) (by simp only [seval,FMK,h2,h3]) ?_
 simp only [seval,EMK,SB,fld_27_1,sz_25,ag_25,und_25,sz_68,q2,Int.toNat_natCast,fld_68_0,sz_2,ag_2,q3,h2,h3]
 cases h
 simp only [seval,FMK,h2,h3]
 refine .regionD [] (by kernel_rfl) fun e h=>?_
 simp only [seval,EMK,SB,fld_27_1,sz_25,ag_25,und_25,sz_68,q2,Int.toNat_natCast,ag_68,h2,h3]
 refine Spec.by (r45_entry_spec h1) (by simp only [seval,FMK,h2,h3]) ?_
 simp only [seval,EMK,SB,h2,h3]
 cases h
 simp only [seval,FMK,h2,h3]
 refine .regionD [] (by kernel_rfl) fun e h=>?_
 simp only [seval,EMK,SB,fld_27_1,sz_25,ag_25,und_25,sz_68,q2,Int.toNat_natCast,ag_68,h2]
 refine Spec.by (r45_entry_spec h1) (by simp only [seval,FMK,h2]) ?_
 simp only [seval,EMK,SB,h2]
 cases h
 simp only [seval,FMK,h2]
 intro v3
 refine Mir.toK (.cond rfl (fun h4=>?_) (fun h4=>?_))
 refine .sR fun e h=>?_
 simp only [seval,EMK]
 refine mU e (.ret fun e h=>?_) h
 cases h
 simp only [seval,FMK,Tryz.results24]
 refine .skip (Mir.toB (Mir.toK (.region fun e h=>?_)))
 simp only [seval,EMK]
 cases h
 simp only [seval,FMK,Tryz.results24,q2]
 intro v2 q4
 refine .seqK (.sR fun e h=>?_)
 simp only [seval,EMK,fld_27_1,sz_25,ag_25,und_25,q4]
 refine mU e (.condF rfl (.exit fun e h=>?_)) h
 cases h
 simp only [seval,FMK,Tryz.results24]
 intro v4
 refine Mir.toK (.sR fun e h=>?_)
 simp only [seval,EMK]
 refine mU e (.ret fun e h=>?_) h
 cases h
 simp only [seval,FMK,Tryz.results24]
def r45_digits (a0 : Int) : Option (List UInt8) := bindO (loopX (fun (v1 : Int × (List UInt8))=>if ((decide (v1.1 > 0)) || (v1.2 == [])) = true then guardO (okStr (runeS (IntKind.i32.wrap (IntKind.i64.wrap (48 + (Int.tmod v1.1 10))))) v1.2) ( some (.go (IntKind.i64.wrap (Int.tdiv v1.1 10),(runeS (IntKind.i32.wrap (IntKind.i64.wrap (48 + (Int.tmod v1.1 10))))) ++ v1.2))) else some (.ret v1.2)) fuel (a0,[])) fun (v2 : (List UInt8))=>some v2
theorem r45_digits_spec {a0 : Int} {y : (List UInt8)} (h : r45_digits a0 = some y) : Spec gP 45 [.d (.int .i64 a0)] (.d (.str y)) := by
 refine spec_mir Tryz.func45 rfl (by kernel_rfl) (by kernel_rfl) (fun y : (List UInt8)=>.d (.str y)) ?_ h
 unfold r45_digits
 simp only [List.replicate,List.length,nS,nA,Tryz.ntmps45,SV]
 refine .sR fun e h=>?_
 simp only [seval,EMK]
 refine mU e (.sR fun e h=>?_) h
 simp only [seval,EMK]
 refine mU e (.seqK (Mir.joinO (fun v2 : (List UInt8)=>([U,U,U,.d (.str v2)] ++ us 16)) (fun v2=>⟨[],[]⟩) (fun _=>rfl) ?_ ?_)) h
 refine .block (Mir.loop (fun v1 : Int × (List UInt8)=>([.d (.int .i64 v1.1),U,U,.d (.str v1.2)] ++ us 16)) (fun v1=>⟨[],[]⟩) (fun _=>rfl) (by simp only [seval,FMK]) (by simp only [seval,FMK]) fun v1=>.seqK (.seqK (.joinV ([.d (.int .i64 v1.1),U,U,.d (.str v1.2),U,U,U,U,U,.d (.bool ((decide (v1.1 > 0)) || (v1.2 == [])))] ++ us 10) ⟨[],[]⟩ rfl ?_ ?_)))
 refine SWs.region ?_
 rcases Bool.eq_false_or_eq_true (decide (v1.1 > 0)) with hb25 | hb25
 simp only [seval,EMK,SL,PB,hb25]
 simp only [seval,EMK,SL,PB,hb25]
 refine Mir.toK (.cond rfl (fun hb27=>?_) (fun hb27=>?_))
 refine .skip (Mir.toK (.block (.seqK (.guard fun q28=>?_))))
 replace q28 := okStr_ok q28
 refine .region fun e h=>?_
 simp only [seval,EMK,und_2,und_21,und_9,rune_enc,q28]
 refine mU e (.region fun e h=>?_) h
 simp only [seval,EMK]
 cases h
 simp only [seval,FMK,Tryz.results45]
 refine .exit fun e h=>?_
 cases h
 simp only [seval,FMK,Tryz.results45]
 intro v2
 refine Mir.toK (.sR fun e h=>?_)
 simp only [seval,EMK]
 refine mU e (.ret fun e h=>?_) h
 cases h
 simp only [seval,FMK,Tryz.results45]
def r45_Lines (a0 : R45Table) : Option (List (List UInt8)) := bindO (bindO (if (!((a0.Work.e0.X == 0) && ((a0.Work.e0.Y == 0) && (a0.Work.e0.Z == 0)))) = true then bindO (r45_digits 54) fun (y1 : (List UInt8))=>guardO (okStr [119,111,114,107,32,71] y1) ( guardO (okStr ([119,111,114,107,32,71] ++ y1) [32]) ( bindO (r06_Millimetres a0.Work.e0.X) fun (y2 : (List UInt8))=>guardO (okStr (([119,111,114,107,32,71] ++ y1) ++ [32]) y2) ( guardO (okStr ((([119,111,114,107,32,71] ++ y1) ++ [32]) ++ y2) [32]) ( bindO (r06_Millimetres a0.Work.e0.Y) fun (y3 : (List UInt8))=>guardO (okStr (((([119,111,114,107,32,71] ++ y1) ++ [32]) ++ y2) ++ [32]) y3) ( guardO (okStr ((((([119,111,114,107,32,71] ++ y1) ++ [32]) ++ y2) ++ [32]) ++ y3) [32]) ( bindO (r06_Millimetres a0.Work.e0.Z) fun (y4 : (List UInt8))=>guardO (okStr (((((([119,111,114,107,32,71] ++ y1) ++ [32]) ++ y2) ++ [32]) ++ y3) ++ [32]) y4) ( some [(((((([119,111,114,107,32,71] ++ y1) ++ [32]) ++ y2) ++ [32]) ++ y3) ++ [32]) ++ y4]))))))) else some []) fun (v1 : (List (List UInt8)))=>bindO (if (!((a0.Work.e1.X == 0) && ((a0.Work.e1.Y == 0) && (a0.Work.e1.Z == 0)))) = true then bindO (r45_digits 55) fun (y5 : (List UInt8))=>guardO (okStr [119,111,114,107,32,71] y5) ( guardO (okStr ([119,111,114,107,32,71] ++ y5) [32]) ( bindO (r06_Millimetres a0.Work.e1.X) fun (y6 : (List UInt8))=>guardO (okStr (([119,111,114,107,32,71] ++ y5) ++ [32]) y6) ( guardO (okStr ((([119,111,114,107,32,71] ++ y5) ++ [32]) ++ y6) [32]) ( bindO (r06_Millimetres a0.Work.e1.Y) fun (y7 : (List UInt8))=>guardO (okStr (((([119,111,114,107,32,71] ++ y5) ++ [32]) ++ y6) ++ [32]) y7) ( guardO (okStr ((((([119,111,114,107,32,71] ++ y5) ++ [32]) ++ y6) ++ [32]) ++ y7) [32]) ( bindO (r06_Millimetres a0.Work.e1.Z) fun (y8 : (List UInt8))=>guardO (okStr (((((([119,111,114,107,32,71] ++ y5) ++ [32]) ++ y6) ++ [32]) ++ y7) ++ [32]) y8) ( guardO (okLen (v1.length + 1)) ( some (v1 ++ [(((((([119,111,114,107,32,71] ++ y5) ++ [32]) ++ y6) ++ [32]) ++ y7) ++ [32]) ++ y8]))))))))) else some v1) fun (v2 : (List (List UInt8)))=>bindO (if (!((a0.Work.e2.X == 0) && ((a0.Work.e2.Y == 0) && (a0.Work.e2.Z == 0)))) = true then bindO (r45_digits 56) fun (y9 : (List UInt8))=>guardO (okStr [119,111,114,107,32,71] y9) ( guardO (okStr ([119,111,114,107,32,71] ++ y9) [32]) ( bindO (r06_Millimetres a0.Work.e2.X) fun (y10 : (List UInt8))=>guardO (okStr (([119,111,114,107,32,71] ++ y9) ++ [32]) y10) ( guardO (okStr ((([119,111,114,107,32,71] ++ y9) ++ [32]) ++ y10) [32]) ( bindO (r06_Millimetres a0.Work.e2.Y) fun (y11 : (List UInt8))=>guardO (okStr (((([119,111,114,107,32,71] ++ y9) ++ [32]) ++ y10) ++ [32]) y11) ( guardO (okStr ((((([119,111,114,107,32,71] ++ y9) ++ [32]) ++ y10) ++ [32]) ++ y11) [32]) ( bindO (r06_Millimetres a0.Work.e2.Z) fun (y12 : (List UInt8))=>guardO (okStr (((((([119,111,114,107,32,71] ++ y9) ++ [32]) ++ y10) ++ [32]) ++ y11) ++ [32]) y12) ( guardO (okLen (v2.length + 1)) ( some (v2 ++ [(((((([119,111,114,107,32,71] ++ y9) ++ [32]) ++ y10) ++ [32]) ++ y11) ++ [32]) ++ y12]))))))))) else some v2) fun (v3 : (List (List UInt8)))=>bindO (if (!((a0.Work.e3.X == 0) && ((a0.Work.e3.Y == 0) && (a0.Work.e3.Z == 0)))) = true then bindO (r45_digits 57) fun (y13 : (List UInt8))=>guardO (okStr [119,111,114,107,32,71] y13) ( guardO (okStr ([119,111,114,107,32,71] ++ y13) [32]) ( bindO (r06_Millimetres a0.Work.e3.X) fun (y14 : (List UInt8))=>guardO (okStr (([119,111,114,107,32,71] ++ y13) ++ [32]) y14) ( guardO (okStr ((([119,111,114,107,32,71] ++ y13) ++ [32]) ++ y14) [32]) ( bindO (r06_Millimetres a0.Work.e3.Y) fun (y15 : (List UInt8))=>guardO (okStr (((([119,111,114,107,32,71] ++ y13) ++ [32]) ++ y14) ++ [32]) y15) ( guardO (okStr ((((([119,111,114,107,32,71] ++ y13) ++ [32]) ++ y14) ++ [32]) ++ y15) [32]) ( bindO (r06_Millimetres a0.Work.e3.Z) fun (y16 : (List UInt8))=>guardO (okStr (((((([119,111,114,107,32,71] ++ y13) ++ [32]) ++ y14) ++ [32]) ++ y15) ++ [32]) y16) ( guardO (okLen (v3.length + 1)) ( some (v3 ++ [(((((([119,111,114,107,32,71] ++ y13) ++ [32]) ++ y14) ++ [32]) ++ y15) ++ [32]) ++ y16]))))))))) else some v3) fun (v4 : (List (List UInt8)))=>bindO (if (!((a0.Work.e4.X == 0) && ((a0.Work.e4.Y == 0) && (a0.Work.e4.Z == 0)))) = true then bindO (r45_digits 58) fun (y17 : (List UInt8))=>guardO (okStr [119,111,114,107,32,71] y17) ( guardO (okStr ([119,111,114,107,32,71] ++ y17) [32]) ( bindO (r06_Millimetres a0.Work.e4.X) fun (y18 : (List UInt8))=>guardO (okStr (([119,111,114,107,32,71] ++ y17) ++ [32]) y18) ( guardO (okStr ((([119,111,114,107,32,71] ++ y17) ++ [32]) ++ y18) [32]) ( bindO (r06_Millimetres a0.Work.e4.Y) fun (y19 : (List UInt8))=>guardO (okStr (((([119,111,114,107,32,71] ++ y17) ++ [32]) ++ y18) ++ [32]) y19) ( guardO (okStr ((((([119,111,114,107,32,71] ++ y17) ++ [32]) ++ y18) ++ [32]) ++ y19) [32]) ( bindO (r06_Millimetres a0.Work.e4.Z) fun (y20 : (List UInt8))=>guardO (okStr (((((([119,111,114,107,32,71] ++ y17) ++ [32]) ++ y18) ++ [32]) ++ y19) ++ [32]) y20) ( guardO (okLen (v4.length + 1)) ( some (v4 ++ [(((((([119,111,114,107,32,71] ++ y17) ++ [32]) ++ y18) ++ [32]) ++ y19) ++ [32]) ++ y20]))))))))) else some v4) fun (v5 : (List (List UInt8)))=>bindO (if (!((a0.Work.e5.X == 0) && ((a0.Work.e5.Y == 0) && (a0.Work.e5.Z == 0)))) = true then bindO (r45_digits 59) fun (y21 : (List UInt8))=>guardO (okStr [119,111,114,107,32,71] y21) ( guardO (okStr ([119,111,114,107,32,71] ++ y21) [32]) ( bindO (r06_Millimetres a0.Work.e5.X) fun (y22 : (List UInt8))=>guardO (okStr (([119,111,114,107,32,71] ++ y21) ++ [32]) y22) ( guardO (okStr ((([119,111,114,107,32,71] ++ y21) ++ [32]) ++ y22) [32]) ( bindO (r06_Millimetres a0.Work.e5.Y) fun (y23 : (List UInt8))=>guardO (okStr (((([119,111,114,107,32,71] ++ y21) ++ [32]) ++ y22) ++ [32]) y23) ( guardO (okStr ((((([119,111,114,107,32,71] ++ y21) ++ [32]) ++ y22) ++ [32]) ++ y23) [32]) ( bindO (r06_Millimetres a0.Work.e5.Z) fun (y24 : (List UInt8))=>guardO (okStr (((((([119,111,114,107,32,71] ++ y21) ++ [32]) ++ y22) ++ [32]) ++ y23) ++ [32]) y24) ( guardO (okLen (v5.length + 1)) ( some (v5 ++ [(((((([119,111,114,107,32,71] ++ y21) ++ [32]) ++ y22) ++ [32]) ++ y23) ++ [32]) ++ y24]))))))))) else some v5) fun (v6 : (List (List UInt8)))=>some v6) fun (v7 : (List (List UInt8)))=>bindO (guardO (okIdx a0.Lengths) ( rangeX (fun (i1 : Nat) (e1 : R45Length) (v8 : (List (List UInt8)))=>bindO (r45_digits e1.Number) fun (y25 : (List UInt8))=>guardO (okStr [108,101,110,103,116,104,32] y25) ( guardO (okStr ([108,101,110,103,116,104,32] ++ y25) [32]) ( bindO (r06_Millimetres e1.Length) fun (y26 : (List UInt8))=>guardO (okStr (([108,101,110,103,116,104,32] ++ y25) ++ [32]) y26) ( guardO (okLen (v8.length + 1)) ( some (.go (v8 ++ [(([108,101,110,103,116,104,32] ++ y25) ++ [32]) ++ y26]))))))) (fun (v8 : (List (List UInt8)))=>some v8) a0.Lengths 0 v7)) fun (v9 : (List (List UInt8)))=>some v9
theorem r45_Lines_spec {a0 : R45Table} {y : (List (List UInt8))} (h : r45_Lines a0 = some y) : Spec gP 25 [.agg [.d (.int .i64 a0.Work.e0.X),.d (.int .i64 a0.Work.e0.Y),.d (.int .i64 a0.Work.e0.Z),.d (.int .i64 a0.Work.e1.X),.d (.int .i64 a0.Work.e1.Y),.d (.int .i64 a0.Work.e1.Z),.d (.int .i64 a0.Work.e2.X),.d (.int .i64 a0.Work.e2.Y),.d (.int .i64 a0.Work.e2.Z),.d (.int .i64 a0.Work.e3.X),.d (.int .i64 a0.Work.e3.Y),.d (.int .i64 a0.Work.e3.Z),.d (.int .i64 a0.Work.e4.X),.d (.int .i64 a0.Work.e4.Y),.d (.int .i64 a0.Work.e4.Z),.d (.int .i64 a0.Work.e5.X),.d (.int .i64 a0.Work.e5.Y),.d (.int .i64 a0.Work.e5.Z),.d (.list (List.map encR45Length a0.Lengths))]] (.d (.list (List.map eStr y))) := by
 refine spec_mir Tryz.func25 rfl (by kernel_rfl) (by kernel_rfl) (fun y : (List (List UInt8))=>.d (.list (List.map eStr y))) ?_ h
 unfold r45_Lines
 simp only [List.replicate,List.length,nS,nA,Tryz.ntmps25,SV]
 refine .sR fun e h=>?_
 simp only [seval,EMK,eStr]
 refine mU e (.sR fun e h=>?_) h
 simp only [seval,EMK,eStr]
 refine mU e (.seqK (.sR fun e h=>?_)) h
 simp only [seval,EMK,eStr]
 refine mU e (.gh [.slot 3 9] rfl (Mir.joinO (fun v7 : (List (List UInt8))=>([U,.ptr 0 0,U,.own 0 (List.map eStr v7)] ++ us 64)) (fun v7=>⟨[[.d (.int .i64 a0.Work.e0.X),.d (.int .i64 a0.Work.e0.Y),.d (.int .i64 a0.Work.e0.Z),.d (.int .i64 a0.Work.e1.X),.d (.int .i64 a0.Work.e1.Y),.d (.int .i64 a0.Work.e1.Z),.d (.int .i64 a0.Work.e2.X),.d (.int .i64 a0.Work.e2.Y),.d (.int .i64 a0.Work.e2.Z),.d (.int .i64 a0.Work.e3.X),.d (.int .i64 a0.Work.e3.Y),.d (.int .i64 a0.Work.e3.Z),.d (.int .i64 a0.Work.e4.X),.d (.int .i64 a0.Work.e4.Y),.d (.int .i64 a0.Work.e4.Z),.d (.int .i64 a0.Work.e5.X),.d (.int .i64 a0.Work.e5.Y),.d (.int .i64 a0.Work.e5.Z),.d (.list (List.map encR45Length a0.Lengths))]],[(9,v7.length)]⟩) (fun _=>rfl) ?_ ?_)) h
 refine .block (.loopR 15 (.seqK (.sR fun e h=>?_)))
 simp only [seval,EMK,eStr]
 refine mU e (.condT rfl (.skip (Mir.toK (.seqK (Mir.joinO (fun v1 : (List (List UInt8))=>([U,.ptr 0 0,U,.own 0 (List.map eStr v1),.d (.int .i64 0)] ++ us 63)) (fun v1=>⟨[[.d (.int .i64 a0.Work.e0.X),.d (.int .i64 a0.Work.e0.Y),.d (.int .i64 a0.Work.e0.Z),.d (.int .i64 a0.Work.e1.X),.d (.int .i64 a0.Work.e1.Y),.d (.int .i64 a0.Work.e1.Z),.d (.int .i64 a0.Work.e2.X),.d (.int .i64 a0.Work.e2.Y),.d (.int .i64 a0.Work.e2.Z),.d (.int .i64 a0.Work.e3.X),.d (.int .i64 a0.Work.e3.Y),.d (.int .i64 a0.Work.e3.Z),.d (.int .i64 a0.Work.e4.X),.d (.int .i64 a0.Work.e4.Y),.d (.int .i64 a0.Work.e4.Z),.d (.int .i64 a0.Work.e5.X),.d (.int .i64 a0.Work.e5.Y),.d (.int .i64 a0.Work.e5.Z),.d (.list (List.map encR45Length a0.Lengths))]],[(9,v1.length)]⟩) (fun _=>rfl) ?_ ?_))))) h
 refine .block (.sR fun e h=>?_)
 simp only [seval,EMK,fld_27_0,sz_24,und_24,sz_23,ag_23,zero_23,eStr]
 refine mU e (.sR fun e h=>?_) h
 simp only [seval,EMK,ag_23,sz_23,zero_23,pl_23,gE_23,eStr]
 refine mU e (.cond rfl (fun h1=>?_) (fun h1=>?_)) h
 refine .bind fun y1 h2=>.guard fun q1=>?_
 replace q1 := okStr_ok q1
 try simp only [lm,xNA,xCA,xAN,xLC,xLN,xAC,xAL,nA,Nat.zero_add] at q1
 refine .guard fun q2=>?_
 replace q2 := okStr_ok q2
 try simp only [lm,xNA,xCA,xAN,xLC,xLN,xAC,xAL,nA,Nat.zero_add] at q2
 refine .bind fun y2 h3=>.guard fun q3=>?_
 replace q3 := okStr_ok q3
 try simp only [lm,xNA,xCA,xAN,xLC,xLN,xAC,xAL,nA,Nat.zero_add] at q3
 refine .guard fun q4=>?_
 replace q4 := okStr_ok q4
 try simp only [lm,xNA,xCA,xAN,xLC,xLN,xAC,xAL,nA,Nat.zero_add] at q4
 refine .bind fun y3 h4=>.guard fun q5=>?_
 replace q5 := okStr_ok q5
 try simp only [lm,xNA,xCA,xAN,xLC,xLN,xAC,xAL,nA,Nat.zero_add] at q5
 refine .guard fun q6=>?_
 replace q6 := okStr_ok q6
 try simp only [lm,xNA,xCA,xAN,xLC,xLN,xAC,xAL,nA,Nat.zero_add] at q6
 refine .bind fun y4 h5=>.guard fun q7=>?_
 replace q7 := okStr_ok q7
 try simp only [lm,xNA,xCA,xAN,xLC,xLN,xAC,xAL,nA,Nat.zero_add] at q7
 refine .regionD [] (by kernel_rfl) fun e h=>?_
 simp only [seval,EMK,SB,(nr rfl : IntKind.i64.wrap 54 = 54),eStr]
 refine Spec.by (r45_digits_spec h2) (by simp only [seval,FMK,eStr]) ?_
 simp only [seval,EMK,SB,q1,q2,fld_23_0,sz_2,ag_2,eStr]
 refine Spec.by (r06_Millimetres_spec h3) (by simp only [seval,FMK,eStr]) ?_
 simp only [seval,EMK,SB,q3,q4,fld_23_1,sz_2,ag_2,eStr]
 refine Spec.by (r06_Millimetres_spec h4) (by simp only [seval,FMK,eStr]) ?_
 simp only [seval,EMK,SB,q5,q6,fld_23_2,sz_2,ag_2,eStr]
 refine Spec.by (r06_Millimetres_spec h5) (by simp only [seval,FMK,eStr]) ?_
 simp only [seval,EMK,SB,q7,und_70,sz_9,zero_9,(oL 1),app_70,al_eStr,eStr]
 cases h
 simp only [seval,FMK,eStr,Tryz.results25]
 refine .skip fun e h=>?_
 cases h
 simp only [seval,FMK,eStr,Tryz.results25]
 intro v1
 refine Mir.toK (.region fun e h=>?_)
 simp only [seval,EMK,(nr rfl : IntKind.i64.wrap 1 = 1),eStr]
 refine Mir.useN (e := e) ?_ h
 refine .seqK (.sR fun e h=>?_)
 simp only [seval,EMK,eStr]
 refine mU e (.condT rfl (.skip (Mir.toK (.seqK (Mir.joinO (fun v2 : (List (List UInt8))=>([U,.ptr 0 0,U,.own 0 (List.map eStr v2),.d (.int .i64 1)] ++ us 63)) (fun v2=>⟨[[.d (.int .i64 a0.Work.e0.X),.d (.int .i64 a0.Work.e0.Y),.d (.int .i64 a0.Work.e0.Z),.d (.int .i64 a0.Work.e1.X),.d (.int .i64 a0.Work.e1.Y),.d (.int .i64 a0.Work.e1.Z),.d (.int .i64 a0.Work.e2.X),.d (.int .i64 a0.Work.e2.Y),.d (.int .i64 a0.Work.e2.Z),.d (.int .i64 a0.Work.e3.X),.d (.int .i64 a0.Work.e3.Y),.d (.int .i64 a0.Work.e3.Z),.d (.int .i64 a0.Work.e4.X),.d (.int .i64 a0.Work.e4.Y),.d (.int .i64 a0.Work.e4.Z),.d (.int .i64 a0.Work.e5.X),.d (.int .i64 a0.Work.e5.Y),.d (.int .i64 a0.Work.e5.Z),.d (.list (List.map encR45Length a0.Lengths))]],[(9,v2.length)]⟩) (fun _=>rfl) ?_ ?_))))) h
 refine .block (.sR fun e h=>?_)
 simp only [seval,EMK,fld_27_0,sz_24,und_24,sz_23,ag_23,zero_23,eStr]
 refine mU e (.sR fun e h=>?_) h
 simp only [seval,EMK,ag_23,sz_23,zero_23,pl_23,gE_23,eStr]
 refine mU e (.cond rfl (fun h6=>?_) (fun h6=>?_)) h
 refine .bind fun y5 h7=>.guard fun q8=>?_
 replace q8 := okStr_ok q8
 try simp only [lm,xNA,xCA,xAN,xLC,xLN,xAC,xAL,nA,Nat.zero_add] at q8
 refine .guard fun q9=>?_
 replace q9 := okStr_ok q9
 try simp only [lm,xNA,xCA,xAN,xLC,xLN,xAC,xAL,nA,Nat.zero_add] at q9
 refine .bind fun y6 h8=>.guard fun q10=>?_
 replace q10 := okStr_ok q10
 try simp only [lm,xNA,xCA,xAN,xLC,xLN,xAC,xAL,nA,Nat.zero_add] at q10
 refine .guard fun q11=>?_
 replace q11 := okStr_ok q11
 try simp only [lm,xNA,xCA,xAN,xLC,xLN,xAC,xAL,nA,Nat.zero_add] at q11
 refine .bind fun y7 h9=>.guard fun q12=>?_
 replace q12 := okStr_ok q12
 try simp only [lm,xNA,xCA,xAN,xLC,xLN,xAC,xAL,nA,Nat.zero_add] at q12
 refine .guard fun q13=>?_
 replace q13 := okStr_ok q13
 try simp only [lm,xNA,xCA,xAN,xLC,xLN,xAC,xAL,nA,Nat.zero_add] at q13
 refine .bind fun y8 h10=>.guard fun q14=>?_
 replace q14 := okStr_ok q14
 try simp only [lm,xNA,xCA,xAN,xLC,xLN,xAC,xAL,nA,Nat.zero_add] at q14
 refine .guard fun q15=>.regionD [] (by kernel_rfl) fun e h=>?_
 simp only [seval,EMK,SB,(nr rfl : IntKind.i64.wrap 55 = 55),eStr]
 refine Spec.by (r45_digits_spec h7) (by simp only [seval,FMK,eStr]) ?_
 simp only [seval,EMK,SB,q8,q9,fld_23_0,sz_2,ag_2,eStr]
 refine Spec.by (r06_Millimetres_spec h8) (by simp only [seval,FMK,eStr]) ?_
 simp only [seval,EMK,SB,q10,q11,fld_23_1,sz_2,ag_2,eStr]
 refine Spec.by (r06_Millimetres_spec h9) (by simp only [seval,FMK,eStr]) ?_
 simp only [seval,EMK,SB,q12,q13,fld_23_2,sz_2,ag_2,eStr]
 refine Spec.by (r06_Millimetres_spec h10) (by simp only [seval,FMK,eStr]) ?_
 simp only [seval,EMK,SB,q14,und_70,sz_9,zero_9,(oL 1),app_70,al_eStr,q15,eStr]
 cases h
 simp only [seval,FMK,eStr,Tryz.results25]
 refine .skip fun e h=>?_
 cases h
 simp only [seval,FMK,eStr,Tryz.results25]
 intro v2
 refine Mir.toK (.region fun e h=>?_)
 simp only [seval,EMK,(nr rfl : IntKind.i64.wrap 2 = 2),eStr]
 refine Mir.useN (e := e) ?_ h
 refine .seqK (.sR fun e h=>?_)
 simp only [seval,EMK,eStr]
 refine mU e (.condT rfl (.skip (Mir.toK (.seqK (Mir.joinO (fun v3 : (List (List UInt8))=>([U,.ptr 0 0,U,.own 0 (List.map eStr v3),.d (.int .i64 2)] ++ us 63)) (fun v3=>⟨[[.d (.int .i64 a0.Work.e0.X),.d (.int .i64 a0.Work.e0.Y),.d (.int .i64 a0.Work.e0.Z),.d (.int .i64 a0.Work.e1.X),.d (.int .i64 a0.Work.e1.Y),.d (.int .i64 a0.Work.e1.Z),.d (.int .i64 a0.Work.e2.X),.d (.int .i64 a0.Work.e2.Y),.d (.int .i64 a0.Work.e2.Z),.d (.int .i64 a0.Work.e3.X),.d (.int .i64 a0.Work.e3.Y),.d (.int .i64 a0.Work.e3.Z),.d (.int .i64 a0.Work.e4.X),.d (.int .i64 a0.Work.e4.Y),.d (.int .i64 a0.Work.e4.Z),.d (.int .i64 a0.Work.e5.X),.d (.int .i64 a0.Work.e5.Y),.d (.int .i64 a0.Work.e5.Z),.d (.list (List.map encR45Length a0.Lengths))]],[(9,v3.length)]⟩) (fun _=>rfl) ?_ ?_))))) h
 refine .block (.sR fun e h=>?_)
 simp only [seval,EMK,fld_27_0,sz_24,und_24,sz_23,ag_23,zero_23,eStr]
 refine mU e (.sR fun e h=>?_) h
 simp only [seval,EMK,ag_23,sz_23,zero_23,pl_23,gE_23,eStr]
 refine mU e (.cond rfl (fun h11=>?_) (fun h11=>?_)) h
 refine .bind fun y9 h12=>.guard fun q16=>?_
 replace q16 := okStr_ok q16
 try simp only [lm,xNA,xCA,xAN,xLC,xLN,xAC,xAL,nA,Nat.zero_add] at q16
 refine .guard fun q17=>?_
 replace q17 := okStr_ok q17
 try simp only [lm,xNA,xCA,xAN,xLC,xLN,xAC,xAL,nA,Nat.zero_add] at q17
 refine .bind fun y10 h13=>.guard fun q18=>?_
 replace q18 := okStr_ok q18
 try simp only [lm,xNA,xCA,xAN,xLC,xLN,xAC,xAL,nA,Nat.zero_add] at q18
 refine .guard fun q19=>?_
 replace q19 := okStr_ok q19
 try simp only [lm,xNA,xCA,xAN,xLC,xLN,xAC,xAL,nA,Nat.zero_add] at q19
 refine .bind fun y11 h14=>.guard fun q20=>?_
 replace q20 := okStr_ok q20
 try simp only [lm,xNA,xCA,xAN,xLC,xLN,xAC,xAL,nA,Nat.zero_add] at q20
 refine .guard fun q21=>?_
 replace q21 := okStr_ok q21
 try simp only [lm,xNA,xCA,xAN,xLC,xLN,xAC,xAL,nA,Nat.zero_add] at q21
 refine .bind fun y12 h15=>.guard fun q22=>?_
 replace q22 := okStr_ok q22
 try simp only [lm,xNA,xCA,xAN,xLC,xLN,xAC,xAL,nA,Nat.zero_add] at q22
 refine .guard fun q23=>.regionD [] (by kernel_rfl) fun e h=>?_
 simp only [seval,EMK,SB,(nr rfl : IntKind.i64.wrap 56 = 56),eStr]
 refine Spec.by (r45_digits_spec h12) (by simp only [seval,FMK,eStr]) ?_
 simp only [seval,EMK,SB,q16,q17,fld_23_0,sz_2,ag_2,eStr]
 refine Spec.by (r06_Millimetres_spec h13) (by simp only [seval,FMK,eStr]) ?_
 simp only [seval,EMK,SB,q18,q19,fld_23_1,sz_2,ag_2,eStr]
 refine Spec.by (r06_Millimetres_spec h14) (by simp only [seval,FMK,eStr]) ?_
 simp only [seval,EMK,SB,q20,q21,fld_23_2,sz_2,ag_2,eStr]
 refine Spec.by (r06_Millimetres_spec h15) (by simp only [seval,FMK,eStr]) ?_
 simp only [seval,EMK,SB,q22,und_70,sz_9,zero_9,(oL 1),app_70,al_eStr,q23,eStr]
 cases h
 simp only [seval,FMK,eStr,Tryz.results25]
 refine .skip fun e h=>?_
 cases h
 simp only [seval,FMK,eStr,Tryz.results25]
 intro v3
 refine Mir.toK (.region fun e h=>?_)
 simp only [seval,EMK,(nr rfl : IntKind.i64.wrap 3 = 3),eStr]
 refine Mir.useN (e := e) ?_ h
 refine .seqK (.sR fun e h=>?_)
 simp only [seval,EMK,eStr]
 refine mU e (.condT rfl (.skip (Mir.toK (.seqK (Mir.joinO (fun v4 : (List (List UInt8))=>([U,.ptr 0 0,U,.own 0 (List.map eStr v4),.d (.int .i64 3)] ++ us 63)) (fun v4=>⟨[[.d (.int .i64 a0.Work.e0.X),.d (.int .i64 a0.Work.e0.Y),.d (.int .i64 a0.Work.e0.Z),.d (.int .i64 a0.Work.e1.X),.d (.int .i64 a0.Work.e1.Y),.d (.int .i64 a0.Work.e1.Z),.d (.int .i64 a0.Work.e2.X),.d (.int .i64 a0.Work.e2.Y),.d (.int .i64 a0.Work.e2.Z),.d (.int .i64 a0.Work.e3.X),.d (.int .i64 a0.Work.e3.Y),.d (.int .i64 a0.Work.e3.Z),.d (.int .i64 a0.Work.e4.X),.d (.int .i64 a0.Work.e4.Y),.d (.int .i64 a0.Work.e4.Z),.d (.int .i64 a0.Work.e5.X),.d (.int .i64 a0.Work.e5.Y),.d (.int .i64 a0.Work.e5.Z),.d (.list (List.map encR45Length a0.Lengths))]],[(9,v4.length)]⟩) (fun _=>rfl) ?_ ?_))))) h
 refine .block (.sR fun e h=>?_)
 simp only [seval,EMK,fld_27_0,sz_24,und_24,sz_23,ag_23,zero_23,eStr]
 refine mU e (.sR fun e h=>?_) h
 simp only [seval,EMK,ag_23,sz_23,zero_23,pl_23,gE_23,eStr]
 refine mU e (.cond rfl (fun h16=>?_) (fun h16=>?_)) h
 refine .bind fun y13 h17=>.guard fun q24=>?_
 replace q24 := okStr_ok q24
 try simp only [lm,xNA,xCA,xAN,xLC,xLN,xAC,xAL,nA,Nat.zero_add] at q24
 refine .guard fun q25=>?_
 replace q25 := okStr_ok q25
 try simp only [lm,xNA,xCA,xAN,xLC,xLN,xAC,xAL,nA,Nat.zero_add] at q25
 refine .bind fun y14 h18=>.guard fun q26=>?_
 replace q26 := okStr_ok q26
 try simp only [lm,xNA,xCA,xAN,xLC,xLN,xAC,xAL,nA,Nat.zero_add] at q26
 refine .guard fun q27=>?_
 replace q27 := okStr_ok q27
 try simp only [lm,xNA,xCA,xAN,xLC,xLN,xAC,xAL,nA,Nat.zero_add] at q27
 refine .bind fun y15 h19=>.guard fun q28=>?_
 replace q28 := okStr_ok q28
 try simp only [lm,xNA,xCA,xAN,xLC,xLN,xAC,xAL,nA,Nat.zero_add] at q28
 refine .guard fun q29=>?_
 replace q29 := okStr_ok q29
 try simp only [lm,xNA,xCA,xAN,xLC,xLN,xAC,xAL,nA,Nat.zero_add] at q29
 refine .bind fun y16 h20=>.guard fun q30=>?_
 replace q30 := okStr_ok q30
 try simp only [lm,xNA,xCA,xAN,xLC,xLN,xAC,xAL,nA,Nat.zero_add] at q30
 refine .guard fun q31=>.regionD [] (by kernel_rfl) fun e h=>?_
 simp only [seval,EMK,SB,(nr rfl : IntKind.i64.wrap 57 = 57),eStr]
 refine Spec.by (r45_digits_spec h17) (by simp only [seval,FMK,eStr]) ?_
 simp only [seval,EMK,SB,q24,q25,fld_23_0,sz_2,ag_2,eStr]
 refine Spec.by (r06_Millimetres_spec h18) (by simp only [seval,FMK,eStr]) ?_
 simp only [seval,EMK,SB,q26,q27,fld_23_1,sz_2,ag_2,eStr]
 refine Spec.by (r06_Millimetres_spec h19) (by simp only [seval,FMK,eStr]) ?_
 simp only [seval,EMK,SB,q28,q29,fld_23_2,sz_2,ag_2,eStr]
 refine Spec.by (r06_Millimetres_spec h20) (by simp only [seval,FMK,eStr]) ?_
 simp only [seval,EMK,SB,q30,und_70,sz_9,zero_9,(oL 1),app_70,al_eStr,q31,eStr]
 cases h
 simp only [seval,FMK,eStr,Tryz.results25]
 refine .skip fun e h=>?_
 cases h
 simp only [seval,FMK,eStr,Tryz.results25]
 intro v4
 refine Mir.toK (.region fun e h=>?_)
 simp only [seval,EMK,(nr rfl : IntKind.i64.wrap 4 = 4),eStr]
 refine Mir.useN (e := e) ?_ h
 refine .seqK (.sR fun e h=>?_)
 simp only [seval,EMK,eStr]
 refine mU e (.condT rfl (.skip (Mir.toK (.seqK (Mir.joinO (fun v5 : (List (List UInt8))=>([U,.ptr 0 0,U,.own 0 (List.map eStr v5),.d (.int .i64 4)] ++ us 63)) (fun v5=>⟨[[.d (.int .i64 a0.Work.e0.X),.d (.int .i64 a0.Work.e0.Y),.d (.int .i64 a0.Work.e0.Z),.d (.int .i64 a0.Work.e1.X),.d (.int .i64 a0.Work.e1.Y),.d (.int .i64 a0.Work.e1.Z),.d (.int .i64 a0.Work.e2.X),.d (.int .i64 a0.Work.e2.Y),.d (.int .i64 a0.Work.e2.Z),.d (.int .i64 a0.Work.e3.X),.d (.int .i64 a0.Work.e3.Y),.d (.int .i64 a0.Work.e3.Z),.d (.int .i64 a0.Work.e4.X),.d (.int .i64 a0.Work.e4.Y),.d (.int .i64 a0.Work.e4.Z),.d (.int .i64 a0.Work.e5.X),.d (.int .i64 a0.Work.e5.Y),.d (.int .i64 a0.Work.e5.Z),.d (.list (List.map encR45Length a0.Lengths))]],[(9,v5.length)]⟩) (fun _=>rfl) ?_ ?_))))) h
 refine .block (.sR fun e h=>?_)
 simp only [seval,EMK,fld_27_0,sz_24,und_24,sz_23,ag_23,zero_23,eStr]
 refine mU e (.sR fun e h=>?_) h
 simp only [seval,EMK,ag_23,sz_23,zero_23,pl_23,gE_23,eStr]
 refine mU e (.cond rfl (fun h21=>?_) (fun h21=>?_)) h
 refine .bind fun y17 h22=>.guard fun q32=>?_
 replace q32 := okStr_ok q32
 try simp only [lm,xNA,xCA,xAN,xLC,xLN,xAC,xAL,nA,Nat.zero_add] at q32
 refine .guard fun q33=>?_
 replace q33 := okStr_ok q33
 try simp only [lm,xNA,xCA,xAN,xLC,xLN,xAC,xAL,nA,Nat.zero_add] at q33
 refine .bind fun y18 h23=>.guard fun q34=>?_
 replace q34 := okStr_ok q34
 try simp only [lm,xNA,xCA,xAN,xLC,xLN,xAC,xAL,nA,Nat.zero_add] at q34
 refine .guard fun q35=>?_
 replace q35 := okStr_ok q35
 try simp only [lm,xNA,xCA,xAN,xLC,xLN,xAC,xAL,nA,Nat.zero_add] at q35
 refine .bind fun y19 h24=>.guard fun q36=>?_
 replace q36 := okStr_ok q36
 try simp only [lm,xNA,xCA,xAN,xLC,xLN,xAC,xAL,nA,Nat.zero_add] at q36
 refine .guard fun q37=>?_
 replace q37 := okStr_ok q37
 try simp only [lm,xNA,xCA,xAN,xLC,xLN,xAC,xAL,nA,Nat.zero_add] at q37
 refine .bind fun y20 h25=>.guard fun q38=>?_
 replace q38 := okStr_ok q38
 try simp only [lm,xNA,xCA,xAN,xLC,xLN,xAC,xAL,nA,Nat.zero_add] at q38
 refine .guard fun q39=>.regionD [] (by kernel_rfl) fun e h=>?_
 simp only [seval,EMK,SB,(nr rfl : IntKind.i64.wrap 58 = 58),eStr]
 refine Spec.by (r45_digits_spec h22) (by simp only [seval,FMK,eStr]) ?_
 simp only [seval,EMK,SB,q32,q33,fld_23_0,sz_2,ag_2,eStr]
 refine Spec.by (r06_Millimetres_spec h23) (by simp only [seval,FMK,eStr]) ?_
 simp only [seval,EMK,SB,q34,q35,fld_23_1,sz_2,ag_2,eStr]
 refine Spec.by (r06_Millimetres_spec h24) (by simp only [seval,FMK,eStr]) ?_
 simp only [seval,EMK,SB,q36,q37,fld_23_2,sz_2,ag_2,eStr]
 refine Spec.by (r06_Millimetres_spec h25) (by simp only [seval,FMK,eStr]) ?_
 simp only [seval,EMK,SB,q38,und_70,sz_9,zero_9,(oL 1),app_70,al_eStr,q39,eStr]
 cases h
 simp only [seval,FMK,eStr,Tryz.results25]
 refine .skip fun e h=>?_
 cases h
 simp only [seval,FMK,eStr,Tryz.results25]
 intro v5
 refine Mir.toK (.region fun e h=>?_)
 simp only [seval,EMK,(nr rfl : IntKind.i64.wrap 5 = 5),eStr]
 refine Mir.useN (e := e) ?_ h
 refine .seqK (.sR fun e h=>?_)
 simp only [seval,EMK,eStr]
 refine mU e (.condT rfl (.skip (Mir.toK (.seqK (Mir.joinO (fun v6 : (List (List UInt8))=>([U,.ptr 0 0,U,.own 0 (List.map eStr v6),.d (.int .i64 5)] ++ us 63)) (fun v6=>⟨[[.d (.int .i64 a0.Work.e0.X),.d (.int .i64 a0.Work.e0.Y),.d (.int .i64 a0.Work.e0.Z),.d (.int .i64 a0.Work.e1.X),.d (.int .i64 a0.Work.e1.Y),.d (.int .i64 a0.Work.e1.Z),.d (.int .i64 a0.Work.e2.X),.d (.int .i64 a0.Work.e2.Y),.d (.int .i64 a0.Work.e2.Z),.d (.int .i64 a0.Work.e3.X),.d (.int .i64 a0.Work.e3.Y),.d (.int .i64 a0.Work.e3.Z),.d (.int .i64 a0.Work.e4.X),.d (.int .i64 a0.Work.e4.Y),.d (.int .i64 a0.Work.e4.Z),.d (.int .i64 a0.Work.e5.X),.d (.int .i64 a0.Work.e5.Y),.d (.int .i64 a0.Work.e5.Z),.d (.list (List.map encR45Length a0.Lengths))]],[(9,v6.length)]⟩) (fun _=>rfl) ?_ ?_))))) h
 refine .block (.sR fun e h=>?_)
 simp only [seval,EMK,fld_27_0,sz_24,und_24,sz_23,ag_23,zero_23,eStr]
 refine mU e (.sR fun e h=>?_) h
 simp only [seval,EMK,ag_23,sz_23,zero_23,pl_23,gE_23,eStr]
 refine mU e (.cond rfl (fun h26=>?_) (fun h26=>?_)) h
 refine .bind fun y21 h27=>.guard fun q40=>?_
 replace q40 := okStr_ok q40
 try simp only [lm,xNA,xCA,xAN,xLC,xLN,xAC,xAL,nA,Nat.zero_add] at q40
 refine .guard fun q41=>?_
 replace q41 := okStr_ok q41
 try simp only [lm,xNA,xCA,xAN,xLC,xLN,xAC,xAL,nA,Nat.zero_add] at q41
 refine .bind fun y22 h28=>.guard fun q42=>?_
 replace q42 := okStr_ok q42
 try simp only [lm,xNA,xCA,xAN,xLC,xLN,xAC,xAL,nA,Nat.zero_add] at q42
 refine .guard fun q43=>?_
 replace q43 := okStr_ok q43
 try simp only [lm,xNA,xCA,xAN,xLC,xLN,xAC,xAL,nA,Nat.zero_add] at q43
 refine .bind fun y23 h29=>.guard fun q44=>?_
 replace q44 := okStr_ok q44
 try simp only [lm,xNA,xCA,xAN,xLC,xLN,xAC,xAL,nA,Nat.zero_add] at q44
 refine .guard fun q45=>?_
 replace q45 := okStr_ok q45
 try simp only [lm,xNA,xCA,xAN,xLC,xLN,xAC,xAL,nA,Nat.zero_add] at q45
 refine .bind fun y24 h30=>.guard fun q46=>?_
 replace q46 := okStr_ok q46
 try simp only [lm,xNA,xCA,xAN,xLC,xLN,xAC,xAL,nA,Nat.zero_add] at q46
 refine .guard fun q47=>.regionD [] (by kernel_rfl) fun e h=>?_
 simp only [seval,EMK,SB,(nr rfl : IntKind.i64.wrap 59 = 59),eStr]
 refine Spec.by (r45_digits_spec h27) (by simp only [seval,FMK,eStr]) ?_
 simp only [seval,EMK,SB,q40,q41,fld_23_0,sz_2,ag_2,eStr]
 refine Spec.by (r06_Millimetres_spec h28) (by simp only [seval,FMK,eStr]) ?_
 simp only [seval,EMK,SB,q42,q43,fld_23_1,sz_2,ag_2,eStr]
 refine Spec.by (r06_Millimetres_spec h29) (by simp only [seval,FMK,eStr]) ?_
 simp only [seval,EMK,SB,q44,q45,fld_23_2,sz_2,ag_2,eStr]
 refine Spec.by (r06_Millimetres_spec h30) (by simp only [seval,FMK,eStr]) ?_
 simp only [seval,EMK,SB,q46,und_70,sz_9,zero_9,(oL 1),app_70,al_eStr,q47,eStr]
 cases h
 simp only [seval,FMK,eStr,Tryz.results25]
 refine .skip fun e h=>?_
 cases h
 simp only [seval,FMK,eStr,Tryz.results25]
 intro v6
 refine Mir.toK (.region fun e h=>?_)
 simp only [seval,EMK,(nr rfl : IntKind.i64.wrap 6 = 6),eStr]
 refine Mir.useN (e := e) ?_ h
 refine .seqK (.sR fun e h=>?_)
 simp only [seval,EMK,eStr]
 refine mU e (.condF rfl (.exit fun e h=>?_)) h
 cases h
 simp only [seval,FMK,eStr,Tryz.results25]
 intro v7
 refine Mir.toK (.seqK (.sR fun e h=>?_))
 simp only [seval,EMK,eStr]
 refine mU e (Mir.joinO (fun v9 : (List (List UInt8))=>([U,U,U,.own 0 (List.map eStr v9)] ++ us 64)) (fun v9=>⟨[[.d (.int .i64 a0.Work.e0.X),.d (.int .i64 a0.Work.e0.Y),.d (.int .i64 a0.Work.e0.Z),.d (.int .i64 a0.Work.e1.X),.d (.int .i64 a0.Work.e1.Y),.d (.int .i64 a0.Work.e1.Z),.d (.int .i64 a0.Work.e2.X),.d (.int .i64 a0.Work.e2.Y),.d (.int .i64 a0.Work.e2.Z),.d (.int .i64 a0.Work.e3.X),.d (.int .i64 a0.Work.e3.Y),.d (.int .i64 a0.Work.e3.Z),.d (.int .i64 a0.Work.e4.X),.d (.int .i64 a0.Work.e4.Y),.d (.int .i64 a0.Work.e4.Z),.d (.int .i64 a0.Work.e5.X),.d (.int .i64 a0.Work.e5.Y),.d (.int .i64 a0.Work.e5.Z),.d (.list (List.map encR45Length a0.Lengths))]],[(9,v9.length)]⟩) (fun _=>rfl) ?_ ?_) h
 refine .block (.guard fun q48=>Mir.range (fun (i1 : Nat) (v8 : (List (List UInt8)))=>([U,.ptr 0 0,U,.own 0 (List.map eStr v8),U,U,.d (.int .i64 (i1 : Int))] ++ us 61)) (fun i1 v8=>⟨[[.d (.int .i64 a0.Work.e0.X),.d (.int .i64 a0.Work.e0.Y),.d (.int .i64 a0.Work.e0.Z),.d (.int .i64 a0.Work.e1.X),.d (.int .i64 a0.Work.e1.Y),.d (.int .i64 a0.Work.e1.Z),.d (.int .i64 a0.Work.e2.X),.d (.int .i64 a0.Work.e2.Y),.d (.int .i64 a0.Work.e2.Z),.d (.int .i64 a0.Work.e3.X),.d (.int .i64 a0.Work.e3.Y),.d (.int .i64 a0.Work.e3.Z),.d (.int .i64 a0.Work.e4.X),.d (.int .i64 a0.Work.e4.Y),.d (.int .i64 a0.Work.e4.Z),.d (.int .i64 a0.Work.e5.X),.d (.int .i64 a0.Work.e5.Y),.d (.int .i64 a0.Work.e5.Z),.d (.list (List.map encR45Length a0.Lengths))]],[(9,v8.length)]⟩) q48 (fun _ _=>rfl) (by simp only [seval,FMK,eStr,zNI]) (by simp only [seval,FMK,eStr,zNI]) ?_ ?_)
 intro i1 e1 v8 q49
 refine .seqK (.sR fun e h=>?_)
 simp only [seval,EMK,fld_27_1,sz_25,ag_25,und_25,q49,eStr]
 refine mU e (.condT rfl (.skip (Mir.toK (.seqK (.block (.bind fun y25 h31=>.guard fun q50=>?_)))))) h
 replace q50 := okStr_ok q50
 try simp only [lm,xNA,xCA,xAN,xLC,xLN,xAC,xAL,nA,Nat.zero_add] at q50
 refine .guard fun q51=>?_
 replace q51 := okStr_ok q51
 try simp only [lm,xNA,xCA,xAN,xLC,xLN,xAC,xAL,nA,Nat.zero_add] at q51
 refine .bind fun y26 h32=>.guard fun q52=>?_
 replace q52 := okStr_ok q52
 try simp only [lm,xNA,xCA,xAN,xLC,xLN,xAC,xAL,nA,Nat.zero_add] at q52
 refine .guard fun q53=>.regionD [] (by kernel_rfl) fun e h=>?_
 simp only [seval,EMK,SB,fld_27_1,sz_25,ag_25,und_25,sz_68,q49,Int.toNat_natCast,fld_68_0,sz_2,ag_2,eStr]
 refine Spec.by (r45_digits_spec h31) (by simp only [seval,FMK,eStr]) ?_
 simp only [seval,EMK,SB,q50,q51,fld_27_1,sz_25,ag_25,und_25,sz_68,q49,Int.toNat_natCast,fld_68_1,sz_2,ag_2,eStr]
 refine Spec.by (r06_Millimetres_spec h32) (by simp only [seval,FMK,eStr]) ?_
 simp only [seval,EMK,SB,q52,und_70,sz_9,zero_9,(oL 1),app_70,al_eStr,q53,eStr]
 refine mU e (.region fun e h=>?_) h
 simp only [seval,EMK,eStr]
 cases h
 simp only [seval,FMK,eStr,Tryz.results25,q49]
 intro v8 q54
 refine .seqK (.sR fun e h=>?_)
 simp only [seval,EMK,fld_27_1,sz_25,ag_25,und_25,q54,eStr]
 refine mU e (.condF rfl (.exit fun e h=>?_)) h
 cases h
 simp only [seval,FMK,eStr,Tryz.results25]
 intro v9
 refine Mir.toK (.sR fun e h=>?_)
 simp only [seval,EMK,eStr]
 refine mU e (.ret fun e h=>?_) h
 cases h
 simp only [seval,FMK,eStr,Tryz.results25]
def r45_Format (a0 : R45Table) : Option ((List UInt8) × Int) := bindO (r45_Valid a0) fun (y1 : Int)=>if (y1 != 0) = true then some ([],y1) else bindO (r45_Lines a0) fun (y2 : (List (List UInt8)))=>bindO (guardO (okIdx y2) ( rangeX (fun (i1 : Nat) (e1 : (List UInt8)) (v1 : (List UInt8))=>guardO (okStr v1 e1) ( guardO (okStr (v1 ++ e1) [10]) ( some (.go ((v1 ++ e1) ++ [10]))))) (fun (v1 : (List UInt8))=>some v1) y2 0 [])) fun (v2 : (List UInt8))=>some (v2,0)
theorem r45_Format_spec {a0 : R45Table} {y : (List UInt8) × Int} (h : r45_Format a0 = some y) : Spec gP 8 [.agg [.d (.int .i64 a0.Work.e0.X),.d (.int .i64 a0.Work.e0.Y),.d (.int .i64 a0.Work.e0.Z),.d (.int .i64 a0.Work.e1.X),.d (.int .i64 a0.Work.e1.Y),.d (.int .i64 a0.Work.e1.Z),.d (.int .i64 a0.Work.e2.X),.d (.int .i64 a0.Work.e2.Y),.d (.int .i64 a0.Work.e2.Z),.d (.int .i64 a0.Work.e3.X),.d (.int .i64 a0.Work.e3.Y),.d (.int .i64 a0.Work.e3.Z),.d (.int .i64 a0.Work.e4.X),.d (.int .i64 a0.Work.e4.Y),.d (.int .i64 a0.Work.e4.Z),.d (.int .i64 a0.Work.e5.X),.d (.int .i64 a0.Work.e5.Y),.d (.int .i64 a0.Work.e5.Z),.d (.list (List.map encR45Length a0.Lengths))]] (.tuple [.d (.str y.1),.d (.int .i64 y.2)]) := by
 refine spec_mir Tryz.func8 rfl (by kernel_rfl) (by kernel_rfl) (fun y : (List UInt8) × Int=>.tuple [.d (.str y.1),.d (.int .i64 y.2)]) ?_ h
 unfold r45_Format
 simp only [List.replicate,List.length,nS,nA,Tryz.ntmps8,SV]
 refine .sR fun e h=>?_
 simp only [seval,EMK,eStr]
 refine mU e (.seqK (.seqK (.bind fun y1 hy1=>.region fun e h=>?_))) h
 simp only [seval,EMK,ag_27,sz_27,eStr]
 refine SpecS.by (r45_Valid_spec hy1) (by simp only [seval,FMK,eStr]) ?_
 simp only [seval,EMK,eStr]
 refine mU e (.sR fun e h=>?_) h
 simp only [seval,EMK,eStr]
 refine mU e (.cond rfl (fun hb3=>?_) (fun hb3=>?_)) h
 refine .sR fun e h=>?_
 simp only [seval,EMK]
 refine mU e (.ret fun e h=>?_) h
 cases h
 simp only [seval,FMK,Tryz.results8]
 refine .skip (Mir.toK (.sR fun e h=>?_))
 simp only [seval,EMK,eStr]
 refine mU e (.seqK (.bind fun y2 hy4=>.region fun e h=>?_)) h
 simp only [seval,EMK,ag_27,sz_27,eStr]
 refine SpecS.by (r45_Lines_spec hy4) (by simp only [seval,FMK,eStr]) ?_
 simp only [seval,EMK,eStr]
 refine mU e (.seqK (.sR fun e h=>?_)) h
 simp only [seval,EMK,eStr]
 refine mU e (Mir.joinO (fun v2 : (List UInt8)=>([U,U,U,U,U,.d (.str v2)] ++ us 23)) (fun v2=>⟨[[.d (.int .i64 a0.Work.e0.X),.d (.int .i64 a0.Work.e0.Y),.d (.int .i64 a0.Work.e0.Z),.d (.int .i64 a0.Work.e1.X),.d (.int .i64 a0.Work.e1.Y),.d (.int .i64 a0.Work.e1.Z),.d (.int .i64 a0.Work.e2.X),.d (.int .i64 a0.Work.e2.Y),.d (.int .i64 a0.Work.e2.Z),.d (.int .i64 a0.Work.e3.X),.d (.int .i64 a0.Work.e3.Y),.d (.int .i64 a0.Work.e3.Z),.d (.int .i64 a0.Work.e4.X),.d (.int .i64 a0.Work.e4.Y),.d (.int .i64 a0.Work.e4.Z),.d (.int .i64 a0.Work.e5.X),.d (.int .i64 a0.Work.e5.Y),.d (.int .i64 a0.Work.e5.Z),.d (.list (List.map encR45Length a0.Lengths))]],[]⟩) (fun _=>rfl) ?_ ?_) h
 refine .block (.guard fun qg62=>Mir.range (fun (i1 : Nat) (v1 : (List UInt8))=>([U,U,U,U,U,.d (.str v1),.d (.list (List.map eStr y2)),.d (.int .i64 (i1 : Int))] ++ us 21)) (fun i1 v1=>⟨[[.d (.int .i64 a0.Work.e0.X),.d (.int .i64 a0.Work.e0.Y),.d (.int .i64 a0.Work.e0.Z),.d (.int .i64 a0.Work.e1.X),.d (.int .i64 a0.Work.e1.Y),.d (.int .i64 a0.Work.e1.Z),.d (.int .i64 a0.Work.e2.X),.d (.int .i64 a0.Work.e2.Y),.d (.int .i64 a0.Work.e2.Z),.d (.int .i64 a0.Work.e3.X),.d (.int .i64 a0.Work.e3.Y),.d (.int .i64 a0.Work.e3.Z),.d (.int .i64 a0.Work.e4.X),.d (.int .i64 a0.Work.e4.Y),.d (.int .i64 a0.Work.e4.Z),.d (.int .i64 a0.Work.e5.X),.d (.int .i64 a0.Work.e5.Y),.d (.int .i64 a0.Work.e5.Z),.d (.list (List.map encR45Length a0.Lengths))]],[]⟩) qg62 (fun _ _=>rfl) (by simp only [seval,FMK,eStr,zNI]) (by simp only [seval,FMK,eStr,zNI]) ?_ ?_)
 intro i1 e1 v1 qr60
 refine .seqK (.sR fun e h=>?_)
 simp only [seval,EMK,und_70,qr60,eStr]
 refine mU e (.condT rfl (.skip (Mir.toK (.seqK (.block (.guard fun q65=>?_)))))) h
 replace q65 := okStr_ok q65
 refine .guard fun q66=>?_
 replace q66 := okStr_ok q66
 try simp only [lm,xNA,xCA,xAN,xLC,xLN,xAC,xAL,nA,Nat.zero_add] at q66
 refine .region fun e h=>?_
 simp only [seval,EMK,und_70,sz_9,qr60,Int.toNat_natCast,ag_9,q65,q66,eStr]
 refine mU e (.region fun e h=>?_) h
 simp only [seval,EMK,eStr]
 cases h
 simp only [seval,FMK,eStr,Tryz.results8,qr60]
 intro v1 qd61
 refine .seqK (.sR fun e h=>?_)
 simp only [seval,EMK,und_70,qd61,eStr]
 refine mU e (.condF rfl (.exit fun e h=>?_)) h
 cases h
 simp only [seval,FMK,eStr,Tryz.results8]
 intro v2
 refine Mir.toK (.sR fun e h=>?_)
 simp only [seval,EMK,eStr]
 refine mU e (.ret fun e h=>?_) h
 cases h
 simp only [seval,FMK,eStr,Tryz.results8]
end Go.Proofs.YtjamgiobipdfhaaGreatDoor
