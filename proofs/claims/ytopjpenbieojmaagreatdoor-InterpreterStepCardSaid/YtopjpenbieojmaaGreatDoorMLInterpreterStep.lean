import Derived.Test.YtopjpenbieojmaaGreatDoorGx
import Derived.Test.YtopjpenbieojmaaGreatDoorTy
import Derived.Test.YtopjpenbieojmaaGreatDoorGo
import Derived.Test.YtopjpenbieojmaaGreatDoorMB
import Derived.Test.YtopjpenbieojmaaGreatDoorMH
import Derived.Test.YtopjpenbieojmaaGreatDoorMW
namespace Go.Proofs.YtopjpenbieojmaaGreatDoor
open Go.RowKit
open Nat renaming reduceAdd → nA,reduceSub → nS,reduceMul → nM,reduceEqDiff → nE,reduceLeDiff → nL,reduceLT → nT,reduceBEq → nB
open Int renaming reduceLT → iT,reduceToNat → iN,reduceEq → iE
set_option linter.unusedVariables false
set_option linter.unusedSimpArgs false
set_option maxRecDepth 100000
set_option maxHeartbeats 8000000
theorem EMLInterpreterStep : type_of% (And.intro @SE <| @ENMB) := And.intro @SE <| @ENMB
theorem FMLInterpreterStep : type_of% (And.intro @SF <| @ENMB) := And.intro @SF <| @ENMB
def l47_state (a0 : R42State) : Option ModalState := some (ModalState.mk a0.Motion a0.Distance a0.Work a0.Length a0.Return a0.Feed a0.Tool a0.Offset)
theorem l47_state_spec {a0 : R42State} {y : ModalState} (h : l47_state a0 = some y) : Spec gP 9 [.agg [.d (.int .i64 a0.Motion),.d (.int .i64 a0.Distance),.d (.int .i64 a0.Work),.d (.int .i64 a0.Length),.d (.int .i64 a0.Return),.d (.int .i64 a0.Feed),.d (.int .i64 a0.Tool),.d (.int .i64 a0.Offset)]] (.agg [.d (.int .i64 y.Motion),.d (.int .i64 y.Distance),.d (.int .i64 y.Work),.d (.int .i64 y.Length),.d (.int .i64 y.Return),.d (.int .i64 y.Feed),.d (.int .i64 y.Tool),.d (.int .i64 y.Offset)]) := by
 refine spec_mir Tryz.func9 rfl (by kernel_rfl) (by kernel_rfl) (fun y : ModalState=>.agg [.d (.int .i64 y.Motion),.d (.int .i64 y.Distance),.d (.int .i64 y.Work),.d (.int .i64 y.Length),.d (.int .i64 y.Return),.d (.int .i64 y.Feed),.d (.int .i64 y.Tool),.d (.int .i64 y.Offset)]) ?_ h
 unfold l47_state
 simp only [List.replicate,List.length,nS,nA,Tryz.ntmps9,SV]
 refine .sR fun e h=>?_
 simp only [seval,EMLInterpreterStep,zero_44]
 refine mU e (.sR fun e h=>?_) h
 simp only [seval,EMLInterpreterStep,fld_23_0,sz_2,ag_2,fld_23_1,fld_23_2,fld_23_3,fld_23_4,fld_23_5,fld_23_6,fld_23_7,zero_44,pl_44,sz_44]
 refine mU e (.ret fun e h=>?_) h
 cases h
 simp only [seval,FMLInterpreterStep,Tryz.results9,ag_44,sz_44]
def l47_back (a0 : ModalState) : Option R42State := some (R42State.mk a0.Motion a0.Distance a0.Work a0.Length a0.Return a0.Feed a0.Tool a0.Offset)
theorem l47_back_spec {a0 : ModalState} {y : R42State} (h : l47_back a0 = some y) : Spec gP 13 [.agg [.d (.int .i64 a0.Motion),.d (.int .i64 a0.Distance),.d (.int .i64 a0.Work),.d (.int .i64 a0.Length),.d (.int .i64 a0.Return),.d (.int .i64 a0.Feed),.d (.int .i64 a0.Tool),.d (.int .i64 a0.Offset)]] (.agg [.d (.int .i64 y.Motion),.d (.int .i64 y.Distance),.d (.int .i64 y.Work),.d (.int .i64 y.Length),.d (.int .i64 y.Return),.d (.int .i64 y.Feed),.d (.int .i64 y.Tool),.d (.int .i64 y.Offset)]) := by
 refine spec_mir Tryz.func13 rfl (by kernel_rfl) (by kernel_rfl) (fun y : R42State=>.agg [.d (.int .i64 y.Motion),.d (.int .i64 y.Distance),.d (.int .i64 y.Work),.d (.int .i64 y.Length),.d (.int .i64 y.Return),.d (.int .i64 y.Feed),.d (.int .i64 y.Tool),.d (.int .i64 y.Offset)]) ?_ h
 unfold l47_back
 simp only [List.replicate,List.length,nS,nA,Tryz.ntmps13,SV]
 refine .sR fun e h=>?_
 simp only [seval,EMLInterpreterStep,zero_23]
 refine mU e (.sR fun e h=>?_) h
 simp only [seval,EMLInterpreterStep,fld_44_0,sz_2,ag_2,fld_44_1,fld_44_2,fld_44_3,fld_44_4,fld_44_5,fld_44_6,fld_44_7,zero_23,pl_23,sz_23]
 refine mU e (.ret fun e h=>?_) h
 cases h
 simp only [seval,FMLInterpreterStep,Tryz.results13,ag_23,sz_23]
def l47_own (a0 : CycleCycle) : Option R44Cycle := some (R44Cycle.mk a0.Code a0.R a0.Z a0.Q a0.Rate a0.Initial a0.High)
theorem l47_own_spec {a0 : CycleCycle} {y : R44Cycle} (h : l47_own a0 = some y) : Spec gP 14 [.agg [.d (.int .i64 a0.Code),.d (.int .i64 a0.R),.d (.int .i64 a0.Z),.d (.int .i64 a0.Q),.d (.int .i64 a0.Rate),.d (.int .i64 a0.Initial),.d (.bool a0.High)]] (.agg [.d (.int .i64 y.Code),.d (.int .i64 y.R),.d (.int .i64 y.Z),.d (.int .i64 y.Q),.d (.int .i64 y.Rate),.d (.int .i64 y.Initial),.d (.bool y.High)]) := by
 refine spec_mir Tryz.func14 rfl (by kernel_rfl) (by kernel_rfl) (fun y : R44Cycle=>.agg [.d (.int .i64 y.Code),.d (.int .i64 y.R),.d (.int .i64 y.Z),.d (.int .i64 y.Q),.d (.int .i64 y.Rate),.d (.int .i64 y.Initial),.d (.bool y.High)]) ?_ h
 unfold l47_own
 simp only [List.replicate,List.length,nS,nA,Tryz.ntmps14,SV]
 refine .sR fun e h=>?_
 simp only [seval,EMLInterpreterStep,zero_25]
 refine mU e (.sR fun e h=>?_) h
 simp only [seval,EMLInterpreterStep,fld_45_0,sz_2,ag_2,fld_45_1,fld_45_2,fld_45_3,fld_45_4,fld_45_5,fld_45_6,sz_4,ag_4,zero_25,pl_25,sz_25]
 refine mU e (.ret fun e h=>?_) h
 cases h
 simp only [seval,FMLInterpreterStep,Tryz.results14,ag_25,sz_25]
def l47_InterpreterStep (a0 : R47Machine) (a1 : ApiBlock) (a2 : R45Table) : Option Bool := bindO (bindO (l47_awake ) fun (y1 : Bool)=>if y1 = true then bindO (l47_few [a1] (L47Setting.mk a2 (ApiPos.mk 0 0 0))) fun (y2 : Bool)=>if y2 = true then bindO (r42_Regular a0.State) fun (y3 : Bool)=>some (!y3) else some true else some true) fun (v1 : Bool)=>if v1 = true then bindO (l47_awake ) fun (y4 : Bool)=>some y4 else bindO (l47_state a0.State) fun (y5 : ModalState)=>bindO (l47_theirs a2) fun (y6 : TableTable)=>bindO (inp_Step y5 (CycleCycle.mk a0.Cycle.Code a0.Cycle.R a0.Cycle.Z a0.Cycle.Q a0.Cycle.Rate a0.Cycle.Initial a0.Cycle.High) a1 y6 a0.At) fun (y7 : (List ApiMotion) × ModalState × CycleCycle × Int)=>bindO (r47_Step (R47Machine.mk a0.State a0.Cycle a0.At) a1 a2 0) fun (y8 : (List ApiMotion) × R47Machine × Int)=>bindO (if (y7.2.2.2 != y8.2.2) = true then some true else bindO (r47_Same y7.1 y8.1) fun (y9 : Bool)=>if y9 = true then bindO (l47_back y7.2.1) fun (y10 : R42State)=>if ((y10.Motion == y8.2.1.State.Motion) && ((y10.Distance == y8.2.1.State.Distance) && ((y10.Work == y8.2.1.State.Work) && ((y10.Length == y8.2.1.State.Length) && ((y10.Return == y8.2.1.State.Return) && ((y10.Feed == y8.2.1.State.Feed) && ((y10.Tool == y8.2.1.State.Tool) && (y10.Offset == y8.2.1.State.Offset)))))))) = true then bindO (l47_own y7.2.2.1) fun (y11 : R44Cycle)=>some (!((y11.Code == y8.2.1.Cycle.Code) && ((y11.R == y8.2.1.Cycle.R) && ((y11.Z == y8.2.1.Cycle.Z) && ((y11.Q == y8.2.1.Cycle.Q) && ((y11.Rate == y8.2.1.Cycle.Rate) && ((y11.Initial == y8.2.1.Cycle.Initial) && (y11.High == y8.2.1.Cycle.High)))))))) else some true else some true) fun (v2 : Bool)=>if v2 = true then some false else bindO (if (y7.2.2.2 != 0) = true then some true else bindO (inp_End a0.At y7.1) fun (y12 : ApiPos)=>some ((y12.X == y8.2.1.At.X) && ((y12.Y == y8.2.1.At.Y) && (y12.Z == y8.2.1.At.Z)))) fun (v3 : Bool)=>some v3
theorem l47_InterpreterStep_spec {a0 : R47Machine} {a1 : ApiBlock} {a2 : R45Table} {y : Bool} (h : l47_InterpreterStep a0 a1 a2 = some y) : Spec gP 3 [.agg [.d (.int .i64 a0.State.Motion),.d (.int .i64 a0.State.Distance),.d (.int .i64 a0.State.Work),.d (.int .i64 a0.State.Length),.d (.int .i64 a0.State.Return),.d (.int .i64 a0.State.Feed),.d (.int .i64 a0.State.Tool),.d (.int .i64 a0.State.Offset),.d (.int .i64 a0.Cycle.Code),.d (.int .i64 a0.Cycle.R),.d (.int .i64 a0.Cycle.Z),.d (.int .i64 a0.Cycle.Q),.d (.int .i64 a0.Cycle.Rate),.d (.int .i64 a0.Cycle.Initial),.d (.bool a0.Cycle.High),.d (.int .i64 a0.At.X),.d (.int .i64 a0.At.Y),.d (.int .i64 a0.At.Z)],.agg [.d (.bool a1.Skip),.d (.list (List.map encApiWord a1.Words)),.d (.str a1.Comment)],.agg [.d (.int .i64 a2.Work.e0.X),.d (.int .i64 a2.Work.e0.Y),.d (.int .i64 a2.Work.e0.Z),.d (.int .i64 a2.Work.e1.X),.d (.int .i64 a2.Work.e1.Y),.d (.int .i64 a2.Work.e1.Z),.d (.int .i64 a2.Work.e2.X),.d (.int .i64 a2.Work.e2.Y),.d (.int .i64 a2.Work.e2.Z),.d (.int .i64 a2.Work.e3.X),.d (.int .i64 a2.Work.e3.Y),.d (.int .i64 a2.Work.e3.Z),.d (.int .i64 a2.Work.e4.X),.d (.int .i64 a2.Work.e4.Y),.d (.int .i64 a2.Work.e4.Z),.d (.int .i64 a2.Work.e5.X),.d (.int .i64 a2.Work.e5.Y),.d (.int .i64 a2.Work.e5.Z),.d (.list (List.map encR45Length a2.Lengths))]] (.d (.bool y)) := by
 refine spec_mir Tryz.func3 rfl (by kernel_rfl) (by kernel_rfl) (fun y : Bool=>.d (.bool y)) ?_ h
 unfold l47_InterpreterStep
 simp only [List.replicate,List.length,nS,nA,Tryz.ntmps3,SV]
 refine .sR fun e h=>?_
 simp only [seval,EMLInterpreterStep]
 refine mU e (.seqK (.seqK (Mir.joinO (fun v1 : Bool=>([U,U,U,.ptr 0 0,.ptr 1 0,.ptr 2 0,U,U,U,U,U,U,U,U,U,U,U,U,U,U,U,U,U,U,U,U,U,U,U,U,.d (.bool v1)] ++ us 74)) (fun v1=>⟨[[.d (.int .i64 a0.State.Motion),.d (.int .i64 a0.State.Distance),.d (.int .i64 a0.State.Work),.d (.int .i64 a0.State.Length),.d (.int .i64 a0.State.Return),.d (.int .i64 a0.State.Feed),.d (.int .i64 a0.State.Tool),.d (.int .i64 a0.State.Offset),.d (.int .i64 a0.Cycle.Code),.d (.int .i64 a0.Cycle.R),.d (.int .i64 a0.Cycle.Z),.d (.int .i64 a0.Cycle.Q),.d (.int .i64 a0.Cycle.Rate),.d (.int .i64 a0.Cycle.Initial),.d (.bool a0.Cycle.High),.d (.int .i64 a0.At.X),.d (.int .i64 a0.At.Y),.d (.int .i64 a0.At.Z)],[.d (.bool a1.Skip),.d (.list (List.map encApiWord a1.Words)),.d (.str a1.Comment)],[.d (.int .i64 a2.Work.e0.X),.d (.int .i64 a2.Work.e0.Y),.d (.int .i64 a2.Work.e0.Z),.d (.int .i64 a2.Work.e1.X),.d (.int .i64 a2.Work.e1.Y),.d (.int .i64 a2.Work.e1.Z),.d (.int .i64 a2.Work.e2.X),.d (.int .i64 a2.Work.e2.Y),.d (.int .i64 a2.Work.e2.Z),.d (.int .i64 a2.Work.e3.X),.d (.int .i64 a2.Work.e3.Y),.d (.int .i64 a2.Work.e3.Z),.d (.int .i64 a2.Work.e4.X),.d (.int .i64 a2.Work.e4.Y),.d (.int .i64 a2.Work.e4.Z),.d (.int .i64 a2.Work.e5.X),.d (.int .i64 a2.Work.e5.Y),.d (.int .i64 a2.Work.e5.Z),.d (.list (List.map encR45Length a2.Lengths))]],[]⟩) (fun _=>rfl) ?_ ?_))) h
 refine .bind fun y1 hy1=>.ite (fun hb2=>?_) (fun hb2=>?_)
 refine .bind fun y2 hy3=>.ite (fun hb4=>?_) (fun hb4=>?_)
 refine .bind fun y3 hy5=>.region fun e h=>?_
 simp only [seval,EMLInterpreterStep,hb2,hb4]
 refine SpecS.by (l47_awake_spec hy1) (rfl) ?_
 simp only [seval,EMLInterpreterStep,ag_32,sz_32,und_39,zero_32,(oL 3),ag_36,sz_36,zero_41,pl_41,hb2,hb4]
 refine SpecS.by (l47_few_spec hy3) (by simp only [seval,FMLInterpreterStep,hb2,hb4]) ?_
 simp only [seval,EMLInterpreterStep,fld_29_0,sz_23,ag_23,hb2,hb4]
 refine SpecS.by (r42_Regular_spec hy5) (by simp only [seval,FMLInterpreterStep,hb2,hb4]) ?_
 simp only [seval,EMLInterpreterStep,hb2,hb4]
 cases h
 simp only [seval,FMLInterpreterStep,hb2,hb4]
 refine .region fun e h=>?_
 simp only [seval,EMLInterpreterStep,hb2,hb4]
 refine SpecS.by (l47_awake_spec hy1) (rfl) ?_
 simp only [seval,EMLInterpreterStep,ag_32,sz_32,und_39,zero_32,(oL 3),ag_36,sz_36,zero_41,pl_41,hb2,hb4]
 refine SpecS.by (l47_few_spec hy3) (by simp only [seval,FMLInterpreterStep,hb2,hb4]) ?_
 simp only [seval,EMLInterpreterStep,hb2,hb4]
 cases h
 simp only [seval,FMLInterpreterStep,hb2,hb4]
 refine .region fun e h=>?_
 simp only [seval,EMLInterpreterStep,hb2]
 refine SpecS.by (l47_awake_spec hy1) (rfl) ?_
 simp only [seval,EMLInterpreterStep,hb2]
 cases h
 simp only [seval,FMLInterpreterStep,hb2]
 intro v1
 refine Mir.toK (.cond rfl (fun hb8=>?_) (fun hb8=>?_))
 refine .seqK (.bind fun y4 hy9=>.region fun e h=>?_)
 simp only [seval,EMLInterpreterStep]
 refine SpecS.by (l47_awake_spec hy9) (rfl) ?_
 simp only [seval,EMLInterpreterStep]
 refine mU e (.ret fun e h=>?_) h
 cases h
 simp only [seval,FMLInterpreterStep,Tryz.results3]
 refine .skip (Mir.toK (.sR fun e h=>?_))
 simp only [seval,EMLInterpreterStep,fld_29_1,sz_25,ag_25,zero_25]
 refine mU e (.seqK (.bind fun y5 hy10=>.bind fun y6 hy11=>.bind fun y7 hy12=>.regionD [] (by kernel_rfl) fun e h=>?_)) h
 simp only [seval,EMLInterpreterStep,SB,fld_29_0,sz_23,ag_23]
 refine Spec.by (l47_state_spec hy10) (by simp only [seval,FMLInterpreterStep]) ?_
 simp only [seval,EMLInterpreterStep,SB,fld_25_0,sz_2,ag_2,fld_25_1,fld_25_2,fld_25_3,fld_25_4,fld_25_5,fld_25_6,sz_4,ag_4,zero_45,pl_45,ag_32,sz_32,ag_36,sz_36]
 refine Spec.by (l47_theirs_spec hy11) (by simp only [seval,FMLInterpreterStep]) ?_
 simp only [seval,EMLInterpreterStep,SB,fld_29_2,sz_27,ag_27]
 refine Spec.by (inp_Step_spec hy12) (by simp only [seval,FMLInterpreterStep]) ?_
 simp only [seval,EMLInterpreterStep,SB,zero_44,zero_45,sz_44,sz_45]
 refine mU e (.seqK (.bind fun y8 hy13=>.region fun e h=>?_)) h
 simp only [seval,EMLInterpreterStep,ag_29,sz_29,ag_32,sz_32,ag_36,sz_36]
 refine SpecS.by (r47_Step_spec hy13) (by simp only [seval,FMLInterpreterStep]) ?_
 simp only [seval,EMLInterpreterStep,zero_29,sz_29]
 refine mU e (.seqK (.seqK (Mir.joinO (fun v2 : Bool=>([U,U,U,.ptr 0 0,U,U,U,U,.d (.list (List.map encApiMotion y7.1)),U,U,.d (.int .i64 y7.2.2.2),U,.ptr 6 0,U,U,U,U,U,U,U,U,U,U,U,U,U,U,U,U,U,U,U,U,U,U,U,U,U,U,U,U,U,U,U,U,U,U,U,U,U,U,U,U,U,U,U,U,U,U,U,U,U,U,U,U,U,U,U,U,U,U,U,U,U,U,U,U,U,U,U,U,U,U,U,U,U,U,U,U,U,U,U,.d (.bool v2)] ++ us 11)) (fun v2=>⟨[[.d (.int .i64 a0.State.Motion),.d (.int .i64 a0.State.Distance),.d (.int .i64 a0.State.Work),.d (.int .i64 a0.State.Length),.d (.int .i64 a0.State.Return),.d (.int .i64 a0.State.Feed),.d (.int .i64 a0.State.Tool),.d (.int .i64 a0.State.Offset),.d (.int .i64 a0.Cycle.Code),.d (.int .i64 a0.Cycle.R),.d (.int .i64 a0.Cycle.Z),.d (.int .i64 a0.Cycle.Q),.d (.int .i64 a0.Cycle.Rate),.d (.int .i64 a0.Cycle.Initial),.d (.bool a0.Cycle.High),.d (.int .i64 a0.At.X),.d (.int .i64 a0.At.Y),.d (.int .i64 a0.At.Z)],[.d (.bool a1.Skip),.d (.list (List.map encApiWord a1.Words)),.d (.str a1.Comment)],[.d (.int .i64 a2.Work.e0.X),.d (.int .i64 a2.Work.e0.Y),.d (.int .i64 a2.Work.e0.Z),.d (.int .i64 a2.Work.e1.X),.d (.int .i64 a2.Work.e1.Y),.d (.int .i64 a2.Work.e1.Z),.d (.int .i64 a2.Work.e2.X),.d (.int .i64 a2.Work.e2.Y),.d (.int .i64 a2.Work.e2.Z),.d (.int .i64 a2.Work.e3.X),.d (.int .i64 a2.Work.e3.Y),.d (.int .i64 a2.Work.e3.Z),.d (.int .i64 a2.Work.e4.X),.d (.int .i64 a2.Work.e4.Y),.d (.int .i64 a2.Work.e4.Z),.d (.int .i64 a2.Work.e5.X),.d (.int .i64 a2.Work.e5.Y),.d (.int .i64 a2.Work.e5.Z),.d (.list (List.map encR45Length a2.Lengths))],[.d (.int .i64 a0.Cycle.Code),.d (.int .i64 a0.Cycle.R),.d (.int .i64 a0.Cycle.Z),.d (.int .i64 a0.Cycle.Q),.d (.int .i64 a0.Cycle.Rate),.d (.int .i64 a0.Cycle.Initial),.d (.bool a0.Cycle.High)],[.d (.int .i64 y7.2.1.Motion),.d (.int .i64 y7.2.1.Distance),.d (.int .i64 y7.2.1.Work),.d (.int .i64 y7.2.1.Length),.d (.int .i64 y7.2.1.Return),.d (.int .i64 y7.2.1.Feed),.d (.int .i64 y7.2.1.Tool),.d (.int .i64 y7.2.1.Offset)],[.d (.int .i64 y7.2.2.1.Code),.d (.int .i64 y7.2.2.1.R),.d (.int .i64 y7.2.2.1.Z),.d (.int .i64 y7.2.2.1.Q),.d (.int .i64 y7.2.2.1.Rate),.d (.int .i64 y7.2.2.1.Initial),.d (.bool y7.2.2.1.High)],[.d (.int .i64 y8.2.1.State.Motion),.d (.int .i64 y8.2.1.State.Distance),.d (.int .i64 y8.2.1.State.Work),.d (.int .i64 y8.2.1.State.Length),.d (.int .i64 y8.2.1.State.Return),.d (.int .i64 y8.2.1.State.Feed),.d (.int .i64 y8.2.1.State.Tool),.d (.int .i64 y8.2.1.State.Offset),.d (.int .i64 y8.2.1.Cycle.Code),.d (.int .i64 y8.2.1.Cycle.R),.d (.int .i64 y8.2.1.Cycle.Z),.d (.int .i64 y8.2.1.Cycle.Q),.d (.int .i64 y8.2.1.Cycle.Rate),.d (.int .i64 y8.2.1.Cycle.Initial),.d (.bool y8.2.1.Cycle.High),.d (.int .i64 y8.2.1.At.X),.d (.int .i64 y8.2.1.At.Y),.d (.int .i64 y8.2.1.At.Z)]],[]⟩) (fun _=>rfl) ?_ ?_))) h
 refine .ite (fun hb14=>?_) (fun hb14=>?_)
 refine .regionD [] (by kernel_rfl) fun e h=>?_
 simp only [seval,EMLInterpreterStep,SB,hb14]
 cases h
 simp only [seval,FMLInterpreterStep,hb14]
 refine .bind fun y9 hy15=>.ite (fun hb16=>?_) (fun hb16=>?_)
 refine .bind fun y10 hy17=>.ite (fun hb18=>?_) (fun hb18=>?_)
 refine .bind fun y11 hy19=>.regionD [] (by kernel_rfl) fun e h=>?_
 simp only [seval,EMLInterpreterStep,SB,hb14,hb16,hb18]
 refine Spec.by (r47_Same_spec hy15) (by simp only [seval,FMLInterpreterStep,hb14,hb16,hb18]) ?_
 simp only [seval,EMLInterpreterStep,SB,ag_44,sz_44,hb14,hb16,hb18]
 refine Spec.by (l47_back_spec hy17) (by simp only [seval,FMLInterpreterStep,hb14,hb16,hb18]) ?_
 simp only [seval,EMLInterpreterStep,SB,fld_29_0,sz_23,ag_23,gE_23,ag_45,sz_45,hb14,hb16,hb18]
 refine Spec.by (l47_own_spec hy19) (by simp only [seval,FMLInterpreterStep,hb14,hb16,hb18]) ?_
 simp only [seval,EMLInterpreterStep,SB,fld_29_1,sz_25,ag_25,gE_25,hb14,hb16,hb18]
 cases h
 simp only [seval,FMLInterpreterStep,hb14,hb16,hb18]
 refine .regionD [] (by kernel_rfl) fun e h=>?_
 simp only [seval,EMLInterpreterStep,SB,hb14,hb16,hb18]
 refine Spec.by (r47_Same_spec hy15) (by simp only [seval,FMLInterpreterStep,hb14,hb16,hb18]) ?_
 simp only [seval,EMLInterpreterStep,SB,ag_44,sz_44,hb14,hb16,hb18]
 refine Spec.by (l47_back_spec hy17) (by simp only [seval,FMLInterpreterStep,hb14,hb16,hb18]) ?_
 simp only [seval,EMLInterpreterStep,SB,fld_29_0,sz_23,ag_23,gE_23,hb14,hb16,hb18]
 cases h
 simp only [seval,FMLInterpreterStep,hb14,hb16,hb18]
 refine .regionD [] (by kernel_rfl) fun e h=>?_
 simp only [seval,EMLInterpreterStep,SB,hb14,hb16]
 refine Spec.by (r47_Same_spec hy15) (by simp only [seval,FMLInterpreterStep,hb14,hb16]) ?_
 simp only [seval,EMLInterpreterStep,SB,hb14,hb16]
 cases h
 simp only [seval,FMLInterpreterStep,hb14,hb16]
 intro v2
 refine Mir.toK (.cond rfl (fun hb21=>?_) (fun hb21=>?_))
 refine .sR fun e h=>?_
 simp only [seval,EMLInterpreterStep]
 refine mU e (.ret fun e h=>?_) h
 cases h
 simp only [seval,FMLInterpreterStep,Tryz.results3]
 refine .skip (Mir.toK (.seqK (Mir.joinO (fun v3 : Bool=>([U,U,U,U,U,U,.d (.bool v3)] ++ us 98)) (fun v3=>⟨[[.d (.int .i64 a0.State.Motion),.d (.int .i64 a0.State.Distance),.d (.int .i64 a0.State.Work),.d (.int .i64 a0.State.Length),.d (.int .i64 a0.State.Return),.d (.int .i64 a0.State.Feed),.d (.int .i64 a0.State.Tool),.d (.int .i64 a0.State.Offset),.d (.int .i64 a0.Cycle.Code),.d (.int .i64 a0.Cycle.R),.d (.int .i64 a0.Cycle.Z),.d (.int .i64 a0.Cycle.Q),.d (.int .i64 a0.Cycle.Rate),.d (.int .i64 a0.Cycle.Initial),.d (.bool a0.Cycle.High),.d (.int .i64 a0.At.X),.d (.int .i64 a0.At.Y),.d (.int .i64 a0.At.Z)],[.d (.bool a1.Skip),.d (.list (List.map encApiWord a1.Words)),.d (.str a1.Comment)],[.d (.int .i64 a2.Work.e0.X),.d (.int .i64 a2.Work.e0.Y),.d (.int .i64 a2.Work.e0.Z),.d (.int .i64 a2.Work.e1.X),.d (.int .i64 a2.Work.e1.Y),.d (.int .i64 a2.Work.e1.Z),.d (.int .i64 a2.Work.e2.X),.d (.int .i64 a2.Work.e2.Y),.d (.int .i64 a2.Work.e2.Z),.d (.int .i64 a2.Work.e3.X),.d (.int .i64 a2.Work.e3.Y),.d (.int .i64 a2.Work.e3.Z),.d (.int .i64 a2.Work.e4.X),.d (.int .i64 a2.Work.e4.Y),.d (.int .i64 a2.Work.e4.Z),.d (.int .i64 a2.Work.e5.X),.d (.int .i64 a2.Work.e5.Y),.d (.int .i64 a2.Work.e5.Z),.d (.list (List.map encR45Length a2.Lengths))],[.d (.int .i64 a0.Cycle.Code),.d (.int .i64 a0.Cycle.R),.d (.int .i64 a0.Cycle.Z),.d (.int .i64 a0.Cycle.Q),.d (.int .i64 a0.Cycle.Rate),.d (.int .i64 a0.Cycle.Initial),.d (.bool a0.Cycle.High)],[.d (.int .i64 y7.2.1.Motion),.d (.int .i64 y7.2.1.Distance),.d (.int .i64 y7.2.1.Work),.d (.int .i64 y7.2.1.Length),.d (.int .i64 y7.2.1.Return),.d (.int .i64 y7.2.1.Feed),.d (.int .i64 y7.2.1.Tool),.d (.int .i64 y7.2.1.Offset)],[.d (.int .i64 y7.2.2.1.Code),.d (.int .i64 y7.2.2.1.R),.d (.int .i64 y7.2.2.1.Z),.d (.int .i64 y7.2.2.1.Q),.d (.int .i64 y7.2.2.1.Rate),.d (.int .i64 y7.2.2.1.Initial),.d (.bool y7.2.2.1.High)],[.d (.int .i64 y8.2.1.State.Motion),.d (.int .i64 y8.2.1.State.Distance),.d (.int .i64 y8.2.1.State.Work),.d (.int .i64 y8.2.1.State.Length),.d (.int .i64 y8.2.1.State.Return),.d (.int .i64 y8.2.1.State.Feed),.d (.int .i64 y8.2.1.State.Tool),.d (.int .i64 y8.2.1.State.Offset),.d (.int .i64 y8.2.1.Cycle.Code),.d (.int .i64 y8.2.1.Cycle.R),.d (.int .i64 y8.2.1.Cycle.Z),.d (.int .i64 y8.2.1.Cycle.Q),.d (.int .i64 y8.2.1.Cycle.Rate),.d (.int .i64 y8.2.1.Cycle.Initial),.d (.bool y8.2.1.Cycle.High),.d (.int .i64 y8.2.1.At.X),.d (.int .i64 y8.2.1.At.Y),.d (.int .i64 y8.2.1.At.Z)]],[]⟩) (fun _=>rfl) ?_ ?_)))
 refine .ite (fun hb22=>?_) (fun hb22=>?_)
 refine .regionD [] (by kernel_rfl) fun e h=>?_
 simp only [seval,EMLInterpreterStep,SB,hb22]
 cases h
 simp only [seval,FMLInterpreterStep,hb22]
 refine .bind fun y12 hy23=>.regionD [] (by kernel_rfl) fun e h=>?_
 simp only [seval,EMLInterpreterStep,SB,fld_29_2,sz_27,ag_27,hb22]
 refine Spec.by (inp_End_spec hy23) (by simp only [seval,FMLInterpreterStep,hb22]) ?_
 simp only [seval,EMLInterpreterStep,SB,fld_29_2,sz_27,ag_27,gE_27,hb22]
 cases h
 simp only [seval,FMLInterpreterStep,hb22]
 intro v3
 refine Mir.toK (.ret fun e h=>?_)
 cases h
 simp only [seval,FMLInterpreterStep,Tryz.results3]
theorem co_2 : Tryz.prog.cellsOf 2 = 1 := by kernel_rfl
theorem opn_2 : Opn Tryz.prog 2 (eInt .i64) (inInt .i64) := Opn.int Tryz.underlying2
def inR42State (x : R42State) : Prop := (inInt .i64) x.Motion ∧ (inInt .i64) x.Distance ∧ (inInt .i64) x.Work ∧ (inInt .i64) x.Length ∧ (inInt .i64) x.Return ∧ (inInt .i64) x.Feed ∧ (inInt .i64) x.Tool ∧ (inInt .i64) x.Offset
theorem co_23 : Tryz.prog.cellsOf 23 = 8 := by kernel_rfl
theorem opn_23 : Opn Tryz.prog 23 encR42State inR42State := by
 intro w H enc fuel cs x h
 obtain ⟨xs,n,_,_,hl,hxl,hf⟩ := DataW.trod_struct Tryz.underlying23 h
 have hxl' : xs.length = 8 := hxl
 obtain ⟨s0,r0,o0⟩ := Opn.field hf 0 2 0 1 rfl co_2 (by omega) opn_2
 obtain ⟨s1,r1,o1⟩ := Opn.field hf 1 2 1 1 rfl co_2 (by omega) opn_2
 obtain ⟨s2,r2,o2⟩ := Opn.field hf 2 2 2 1 rfl co_2 (by omega) opn_2
 obtain ⟨s3,r3,o3⟩ := Opn.field hf 3 2 3 1 rfl co_2 (by omega) opn_2
 obtain ⟨s4,r4,o4⟩ := Opn.field hf 4 2 4 1 rfl co_2 (by omega) opn_2
 obtain ⟨s5,r5,o5⟩ := Opn.field hf 5 2 5 1 rfl co_2 (by omega) opn_2
 obtain ⟨s6,r6,o6⟩ := Opn.field hf 6 2 6 1 rfl co_2 (by omega) opn_2
 obtain ⟨s7,r7,o7⟩ := Opn.field hf 7 2 7 1 rfl co_2 (by omega) opn_2
 refine ⟨⟨s0,s1,s2,s3,s4,s5,s6,s7⟩,?_,o0,o1,o2,o3,o4,o5,o6,o7⟩
 exact (RelC.cut 0 1 r0 rfl (RelC.cut 1 1 r1 rfl (RelC.cut 2 1 r2 rfl (RelC.cut 3 1 r3 rfl (RelC.cut 4 1 r4 rfl (RelC.cut 5 1 r5 rfl (RelC.cut 6 1 r6 rfl (RelC.cut 7 1 r7 rfl (RelC.nil (n := 8) (by rw [hl,co_23]; exact Nat.le_refl _))))))))))
theorem co_4 : Tryz.prog.cellsOf 4 = 1 := by kernel_rfl
theorem opn_4 : Opn Tryz.prog 4 eBool inBool := Opn.bool Tryz.underlying4
def inR44Cycle (x : R44Cycle) : Prop := (inInt .i64) x.Code ∧ (inInt .i64) x.R ∧ (inInt .i64) x.Z ∧ (inInt .i64) x.Q ∧ (inInt .i64) x.Rate ∧ (inInt .i64) x.Initial ∧ inBool x.High
theorem co_25 : Tryz.prog.cellsOf 25 = 7 := by kernel_rfl
theorem opn_25 : Opn Tryz.prog 25 encR44Cycle inR44Cycle := by
 intro w H enc fuel cs x h
 obtain ⟨xs,n,_,_,hl,hxl,hf⟩ := DataW.trod_struct Tryz.underlying25 h
 have hxl' : xs.length = 7 := hxl
 obtain ⟨s0,r0,o0⟩ := Opn.field hf 0 2 0 1 rfl co_2 (by omega) opn_2
 obtain ⟨s1,r1,o1⟩ := Opn.field hf 1 2 1 1 rfl co_2 (by omega) opn_2
 obtain ⟨s2,r2,o2⟩ := Opn.field hf 2 2 2 1 rfl co_2 (by omega) opn_2
 obtain ⟨s3,r3,o3⟩ := Opn.field hf 3 2 3 1 rfl co_2 (by omega) opn_2
 obtain ⟨s4,r4,o4⟩ := Opn.field hf 4 2 4 1 rfl co_2 (by omega) opn_2
 obtain ⟨s5,r5,o5⟩ := Opn.field hf 5 2 5 1 rfl co_2 (by omega) opn_2
 obtain ⟨s6,r6,o6⟩ := Opn.field hf 6 4 6 1 rfl co_4 (by omega) opn_4
 refine ⟨⟨s0,s1,s2,s3,s4,s5,s6⟩,?_,o0,o1,o2,o3,o4,o5,o6⟩
 exact (RelC.cut 0 1 r0 rfl (RelC.cut 1 1 r1 rfl (RelC.cut 2 1 r2 rfl (RelC.cut 3 1 r3 rfl (RelC.cut 4 1 r4 rfl (RelC.cut 5 1 r5 rfl (RelC.cut 6 1 r6 rfl (RelC.nil (n := 7) (by rw [hl,co_25]; exact Nat.le_refl _)))))))))
def inApiPos (x : ApiPos) : Prop := (inInt .i64) x.X ∧ (inInt .i64) x.Y ∧ (inInt .i64) x.Z
theorem co_27 : Tryz.prog.cellsOf 27 = 3 := by kernel_rfl
theorem opn_27 : Opn Tryz.prog 27 encApiPos inApiPos := by
 intro w H enc fuel cs x h
 obtain ⟨xs,n,_,_,hl,hxl,hf⟩ := DataW.trod_struct Tryz.underlying27 h
 have hxl' : xs.length = 3 := hxl
 obtain ⟨s0,r0,o0⟩ := Opn.field hf 0 2 0 1 rfl co_2 (by omega) opn_2
 obtain ⟨s1,r1,o1⟩ := Opn.field hf 1 2 1 1 rfl co_2 (by omega) opn_2
 obtain ⟨s2,r2,o2⟩ := Opn.field hf 2 2 2 1 rfl co_2 (by omega) opn_2
 refine ⟨⟨s0,s1,s2⟩,?_,o0,o1,o2⟩
 exact (RelC.cut 0 1 r0 rfl (RelC.cut 1 1 r1 rfl (RelC.cut 2 1 r2 rfl (RelC.nil (n := 3) (by rw [hl,co_27]; exact Nat.le_refl _)))))
def inR47Machine (x : R47Machine) : Prop := inR42State x.State ∧ inR44Cycle x.Cycle ∧ inApiPos x.At
theorem co_29 : Tryz.prog.cellsOf 29 = 18 := by kernel_rfl
theorem opn_29 : Opn Tryz.prog 29 encR47Machine inR47Machine := by
 intro w H enc fuel cs x h
 obtain ⟨xs,n,_,_,hl,hxl,hf⟩ := DataW.trod_struct Tryz.underlying29 h
 have hxl' : xs.length = 3 := hxl
 obtain ⟨s0,r0,o0⟩ := Opn.field hf 0 23 0 8 rfl co_23 (by omega) opn_23
 obtain ⟨s1,r1,o1⟩ := Opn.field hf 1 25 8 7 rfl co_25 (by omega) opn_25
 obtain ⟨s2,r2,o2⟩ := Opn.field hf 2 27 15 3 rfl co_27 (by omega) opn_27
 refine ⟨⟨s0,s1,s2⟩,?_,o0,o1,o2⟩
 exact (RelC.cut 0 8 r0 rfl (RelC.cut 8 7 r1 rfl (RelC.cut 15 3 r2 rfl (RelC.nil (n := 18) (by rw [hl,co_29]; exact Nat.le_refl _)))))
theorem co_5 : Tryz.prog.cellsOf 5 = 1 := by kernel_rfl
theorem opn_5 : Opn Tryz.prog 5 (eInt .u8) (inInt .u8) := Opn.int Tryz.underlying5
def inApiWord (x : ApiWord) : Prop := (inInt .u8) x.Letter ∧ (inInt .i64) x.Value
theorem co_117 : Tryz.prog.cellsOf 117 = 2 := by kernel_rfl
theorem opn_117 : Opn Tryz.prog 117 encApiWord inApiWord := by
 intro w H enc fuel cs x h
 obtain ⟨xs,n,_,_,hl,hxl,hf⟩ := DataW.trod_struct Tryz.underlying117 h
 have hxl' : xs.length = 2 := hxl
 obtain ⟨s0,r0,o0⟩ := Opn.field hf 0 5 0 1 rfl co_5 (by omega) opn_5
 obtain ⟨s1,r1,o1⟩ := Opn.field hf 1 2 1 1 rfl co_2 (by omega) opn_2
 refine ⟨⟨s0,s1⟩,?_,o0,o1⟩
 exact (RelC.cut 0 1 r0 rfl (RelC.cut 1 1 r1 rfl (RelC.nil (n := 2) (by rw [hl,co_117]; exact Nat.le_refl _))))
theorem co_30 : Tryz.prog.cellsOf 30 = 1 := by kernel_rfl
theorem opn_30 : Opn Tryz.prog 30 (eList encApiWord) (inList inApiWord) := Opn.slice Tryz.underlying30 opn_117 (fun _=>(rfl : _ = 2).trans co_117.symm) (by rw [co_117]; decide)
theorem co_9 : Tryz.prog.cellsOf 9 = 1 := by kernel_rfl
theorem opn_9 : Opn Tryz.prog 9 eStr inStr := Opn.str Tryz.underlying9
def inApiBlock (x : ApiBlock) : Prop := inBool x.Skip ∧ (inList inApiWord) x.Words ∧ inStr x.Comment
theorem co_32 : Tryz.prog.cellsOf 32 = 3 := by kernel_rfl
theorem opn_32 : Opn Tryz.prog 32 encApiBlock inApiBlock := by
 intro w H enc fuel cs x h
 obtain ⟨xs,n,_,_,hl,hxl,hf⟩ := DataW.trod_struct Tryz.underlying32 h
 have hxl' : xs.length = 3 := hxl
 obtain ⟨s0,r0,o0⟩ := Opn.field hf 0 4 0 1 rfl co_4 (by omega) opn_4
 obtain ⟨s1,r1,o1⟩ := Opn.field hf 1 30 1 1 rfl co_30 (by omega) opn_30
 obtain ⟨s2,r2,o2⟩ := Opn.field hf 2 9 2 1 rfl co_9 (by omega) opn_9
 refine ⟨⟨s0,s1,s2⟩,?_,o0,o1,o2⟩
 exact (RelC.cut 0 1 r0 rfl (RelC.cut 1 1 r1 rfl (RelC.cut 2 1 r2 rfl (RelC.nil (n := 3) (by rw [hl,co_32]; exact Nat.le_refl _)))))
def inArr6ApiPos (x : Arr6ApiPos) : Prop := inApiPos x.e0 ∧ inApiPos x.e1 ∧ inApiPos x.e2 ∧ inApiPos x.e3 ∧ inApiPos x.e4 ∧ inApiPos x.e5
theorem co_33 : Tryz.prog.cellsOf 33 = 18 := by kernel_rfl
theorem opn_33 : Opn Tryz.prog 33 encArr6ApiPos inArr6ApiPos := by
 intro w H enc fuel cs x h
 obtain ⟨xs,n,_,_,hl,hxl,hf⟩ := DataW.trod_array Tryz.underlying33 h
 obtain ⟨s0,r0,o0⟩ := Opn.elem hf 0 3 co_27 (by omega) hxl opn_27
 obtain ⟨s1,r1,o1⟩ := Opn.elem hf 1 3 co_27 (by omega) hxl opn_27
 obtain ⟨s2,r2,o2⟩ := Opn.elem hf 2 3 co_27 (by omega) hxl opn_27
 obtain ⟨s3,r3,o3⟩ := Opn.elem hf 3 3 co_27 (by omega) hxl opn_27
 obtain ⟨s4,r4,o4⟩ := Opn.elem hf 4 3 co_27 (by omega) hxl opn_27
 obtain ⟨s5,r5,o5⟩ := Opn.elem hf 5 3 co_27 (by omega) hxl opn_27
 refine ⟨⟨s0,s1,s2,s3,s4,s5⟩,?_,o0,o1,o2,o3,o4,o5⟩
 exact (RelC.cut 0 3 r0 rfl (RelC.cut 3 3 r1 rfl (RelC.cut 6 3 r2 rfl (RelC.cut 9 3 r3 rfl (RelC.cut 12 3 r4 rfl (RelC.cut 15 3 r5 rfl (RelC.nil (n := 18) (by rw [hl,co_33]; exact Nat.le_refl _))))))))
def inR45Length (x : R45Length) : Prop := (inInt .i64) x.Number ∧ (inInt .i64) x.Length
theorem co_94 : Tryz.prog.cellsOf 94 = 2 := by kernel_rfl
theorem opn_94 : Opn Tryz.prog 94 encR45Length inR45Length := by
 intro w H enc fuel cs x h
 obtain ⟨xs,n,_,_,hl,hxl,hf⟩ := DataW.trod_struct Tryz.underlying94 h
 have hxl' : xs.length = 2 := hxl
 obtain ⟨s0,r0,o0⟩ := Opn.field hf 0 2 0 1 rfl co_2 (by omega) opn_2
 obtain ⟨s1,r1,o1⟩ := Opn.field hf 1 2 1 1 rfl co_2 (by omega) opn_2
 refine ⟨⟨s0,s1⟩,?_,o0,o1⟩
 exact (RelC.cut 0 1 r0 rfl (RelC.cut 1 1 r1 rfl (RelC.nil (n := 2) (by rw [hl,co_94]; exact Nat.le_refl _))))
theorem co_34 : Tryz.prog.cellsOf 34 = 1 := by kernel_rfl
theorem opn_34 : Opn Tryz.prog 34 (eList encR45Length) (inList inR45Length) := Opn.slice Tryz.underlying34 opn_94 (fun _=>(rfl : _ = 2).trans co_94.symm) (by rw [co_94]; decide)
def inR45Table (x : R45Table) : Prop := inArr6ApiPos x.Work ∧ (inList inR45Length) x.Lengths
theorem co_36 : Tryz.prog.cellsOf 36 = 19 := by kernel_rfl
theorem opn_36 : Opn Tryz.prog 36 encR45Table inR45Table := by
 intro w H enc fuel cs x h
 obtain ⟨xs,n,_,_,hl,hxl,hf⟩ := DataW.trod_struct Tryz.underlying36 h
 have hxl' : xs.length = 2 := hxl
 obtain ⟨s0,r0,o0⟩ := Opn.field hf 0 33 0 18 rfl co_33 (by omega) opn_33
 obtain ⟨s1,r1,o1⟩ := Opn.field hf 1 34 18 1 rfl co_34 (by omega) opn_34
 refine ⟨⟨s0,s1⟩,?_,o0,o1⟩
 exact (RelC.cut 0 18 r0 rfl (RelC.cut 18 1 r1 rfl (RelC.nil (n := 19) (by rw [hl,co_36]; exact Nat.le_refl _))))
end Go.Proofs.YtopjpenbieojmaaGreatDoor
