import Derived.Test.YtnnelopkjdgbgaaDoorMBa
namespace Go.Proofs.YtnnelopkjdgbgaaDoor
open Go.RowKit
open Nat renaming reduceAdd → nA,reduceSub → nS,reduceMul → nM,reduceEqDiff → nE,reduceLeDiff → nL,reduceLT → nT,reduceBEq → nB
open Int renaming reduceLT → iT,reduceToNat → iN,reduceEq → iE
set_option linter.unusedVariables false
set_option linter.unusedSimpArgs false
set_option maxRecDepth 100000
set_option maxHeartbeats 8000000
def inp_Step (a0 : ModalState) (a1 : CycleCycle) (a2 : ApiBlock) (a3 : TableTable) (a4 : ApiPos) : Option ((List ApiMotion) × ModalState × CycleCycle × Int) := bindO (inp_checked a3 a4) fun (y1 : Int)=>if (y1 != 0) = true then bindO (some ()) fun (v1 : Unit)=>some ([],ModalState.mk 0 0 0 0 0 0 0 0,CycleCycle.mk 0 0 0 0 0 0 false,y1) else bindO (bindO (bk_Valid a2) fun (y2 : Int)=>if (y2 != 0) = true then some true else bindO (md_Check a2) fun (y3 : Int)=>if (y3 != 0) = true then some true else bindO (inp_known a2) fun (y4 : Bool)=>some (!y4)) fun (v2 : Bool)=>if v2 = true then bindO (some ()) fun (v3 : Unit)=>some ([],ModalState.mk 0 0 0 0 0 0 0 0,CycleCycle.mk 0 0 0 0 0 0 false,1) else bindO (md_Apply a0 a2) fun (y5 : ModalState × Int)=>if (y5.2 != 0) = true then bindO (some ()) fun (v4 : Unit)=>some ([],ModalState.mk 0 0 0 0 0 0 0 0,CycleCycle.mk 0 0 0 0 0 0 false,y5.2) else bindO (inp_cycles y5.1.Motion) fun (y6 : Bool)=>bindO (if (!y6) = true then some (CycleCycle.mk 0 0 0 0 0 0 false) else some (CycleCycle.mk a1.Code a1.R a1.Z a1.Q a1.Rate a1.Initial a1.High)) fun (v5 : CycleCycle)=>bindO (inp_has a2 [88,89,90,73,74,81,82]) fun (y7 : Bool)=>if (!y7) = true then some ([],y5.1,v5,0) else bindO (bindO (inp_has a2 [73,74]) fun (y8 : Bool)=>if y8 = true then if (y5.1.Motion != 2000) = true then if (y5.1.Motion != 3000) = true then some true else bindO (inp_has a2 [81,82]) fun (y9 : Bool)=>if y9 = true then bindO (inp_cycles y5.1.Motion) fun (y10 : Bool)=>some (!y10) else some false else bindO (inp_has a2 [81,82]) fun (y11 : Bool)=>if y11 = true then bindO (inp_cycles y5.1.Motion) fun (y12 : Bool)=>some (!y12) else some false else bindO (inp_has a2 [81,82]) fun (y13 : Bool)=>if y13 = true then bindO (inp_cycles y5.1.Motion) fun (y14 : Bool)=>some (!y14) else some false) fun (v6 : Bool)=>if v6 = true then bindO (some ()) fun (v7 : Unit)=>some ([],ModalState.mk 0 0 0 0 0 0 0 0,CycleCycle.mk 0 0 0 0 0 0 false,1) else if ((y5.1.Motion == 80000) || ((y5.1.Motion != 0) && (decide (y5.1.Feed ≤ 0)))) = true then bindO (some ()) fun (v8 : Unit)=>some ([],ModalState.mk 0 0 0 0 0 0 0 0,CycleCycle.mk 0 0 0 0 0 0 false,13) else bindO (if (y5.1.Length == 43000) = true then some (IntKind.i64.wrap (Int.tdiv y5.1.Offset 1000)) else some 0) fun (v9 : Int)=>bindO (tb_Work (TableTable.mk a3.Work a3.Lengths) y5.1.Work v9 a4) fun (y15 : ApiPos × Int)=>if (y15.2 != 0) = true then bindO (some ()) fun (v10 : Unit)=>some ([],ModalState.mk 0 0 0 0 0 0 0 0,CycleCycle.mk 0 0 0 0 0 0 false,y15.2) else bindO (inp_positions y5.1 v5 (ApiBlock.mk a2.Skip a2.Words a2.Comment) y15.1) fun (y16 : (List InterpreterReached) × CycleCycle × Int)=>if (y16.2.2 != 0) = true then bindO (some ()) fun (v11 : Unit)=>some ([],ModalState.mk 0 0 0 0 0 0 0 0,CycleCycle.mk 0 0 0 0 0 0 false,y16.2.2) else bindX (guardO (okIdx y16.1) ( rangeX (fun (i1 : Nat) (e1 : InterpreterReached) (v12 : (List ApiMotion) × ApiPos)=>bindO (tb_Machine (TableTable.mk a3.Work a3.Lengths) y5.1.Work v9 e1.at_) fun (y17 : ApiPos × Int)=>if (y17.2 != 0) = true then bindO (some ()) fun (v13 : Unit)=>some (.ret (.ret ([],ModalState.mk 0 0 0 0 0 0 0 0,CycleCycle.mk 0 0 0 0 0 0 false,y17.2))) else bindO (if (!((y17.1.X == v12.2.X) && ((y17.1.Y == v12.2.Y) && (y17.1.Z == v12.2.Z)))) = true then guardO (okLen (v12.1.length + 1)) ( some (v12.1 ++ [ApiMotion.mk v12.2 y17.1 e1.rate (IntKind.i64.wrap (Int.tdiv y5.1.Tool 1000)) 0])) else some v12.1) fun (v14 : (List ApiMotion))=>some (.go (v14,y17.1))) (fun (v12 : (List ApiMotion) × ApiPos)=>some (.go (v12.1,v12.2))) y16.1 0 ([],a4))) fun (v15 : (List ApiMotion) × ApiPos)=>some (v15.1,y5.1,y16.2.1,0)
theorem inp_Step_specX {a0 : ModalState} {a1 : CycleCycle} {a2 : ApiBlock} {a3 : TableTable} {a4 : ApiPos} {y : (List ApiMotion) × ModalState × CycleCycle × Int} (h : inp_Step a0 a1 a2 a3 a4 = some y) : SpecX gP 18 [.agg [.d (.int .i64 a0.Motion),.d (.int .i64 a0.Distance),.d (.int .i64 a0.Work),.d (.int .i64 a0.Length),.d (.int .i64 a0.Return),.d (.int .i64 a0.Feed),.d (.int .i64 a0.Tool),.d (.int .i64 a0.Offset)],.agg [.d (.int .i64 a1.Code),.d (.int .i64 a1.R),.d (.int .i64 a1.Z),.d (.int .i64 a1.Q),.d (.int .i64 a1.Rate),.d (.int .i64 a1.Initial),.d (.bool a1.High)],.agg [.d (.bool a2.Skip),.d (.list (List.map encApiWord a2.Words)),.d (.str a2.Comment)],.agg [.d (.int .i64 a3.Work.e0.X),.d (.int .i64 a3.Work.e0.Y),.d (.int .i64 a3.Work.e0.Z),.d (.int .i64 a3.Work.e1.X),.d (.int .i64 a3.Work.e1.Y),.d (.int .i64 a3.Work.e1.Z),.d (.int .i64 a3.Work.e2.X),.d (.int .i64 a3.Work.e2.Y),.d (.int .i64 a3.Work.e2.Z),.d (.int .i64 a3.Work.e3.X),.d (.int .i64 a3.Work.e3.Y),.d (.int .i64 a3.Work.e3.Z),.d (.int .i64 a3.Work.e4.X),.d (.int .i64 a3.Work.e4.Y),.d (.int .i64 a3.Work.e4.Z),.d (.int .i64 a3.Work.e5.X),.d (.int .i64 a3.Work.e5.Y),.d (.int .i64 a3.Work.e5.Z),.d (.list (List.map encTableLength a3.Lengths))],.agg [.d (.int .i64 a4.X),.d (.int .i64 a4.Y),.d (.int .i64 a4.Z)]] 54 (List.map encApiMotion y.1) [.agg [.d (.int .i64 y.2.1.Motion),.d (.int .i64 y.2.1.Distance),.d (.int .i64 y.2.1.Work),.d (.int .i64 y.2.1.Length),.d (.int .i64 y.2.1.Return),.d (.int .i64 y.2.1.Feed),.d (.int .i64 y.2.1.Tool),.d (.int .i64 y.2.1.Offset)],.agg [.d (.int .i64 y.2.2.1.Code),.d (.int .i64 y.2.2.1.R),.d (.int .i64 y.2.2.1.Z),.d (.int .i64 y.2.2.1.Q),.d (.int .i64 y.2.2.1.Rate),.d (.int .i64 y.2.2.1.Initial),.d (.bool y.2.2.1.High)],.d (.int .i64 y.2.2.2)] := by
 refine specX_mir Tryd.func18 rfl (by kernel_rfl) (by kernel_rfl) (fun y : (List ApiMotion) × ModalState × CycleCycle × Int=>List.map encApiMotion y.1) (fun y : (List ApiMotion) × ModalState × CycleCycle × Int=>[.agg [.d (.int .i64 y.2.1.Motion),.d (.int .i64 y.2.1.Distance),.d (.int .i64 y.2.1.Work),.d (.int .i64 y.2.1.Length),.d (.int .i64 y.2.1.Return),.d (.int .i64 y.2.1.Feed),.d (.int .i64 y.2.1.Tool),.d (.int .i64 y.2.1.Offset)],.agg [.d (.int .i64 y.2.2.1.Code),.d (.int .i64 y.2.2.1.R),.d (.int .i64 y.2.2.1.Z),.d (.int .i64 y.2.2.1.Q),.d (.int .i64 y.2.2.1.Rate),.d (.int .i64 y.2.2.1.Initial),.d (.bool y.2.2.1.High)],.d (.int .i64 y.2.2.2)]) (sc_map (fun _=>rfl) _) (by rw [show Tryd.prog.cellsOf 54 = 9 from (by kernel_rfl)]; exact al_ApiMotion) rfl ?_ h
 unfold inp_Step
 simp only [List.replicate,List.length,nS,nA,Tryd.ntmps18,SV]
 refine .sR fun e h=>?_
 simp only [seval,EMB,zero_34,zero_64]
 refine mU e (.seqK (.seqK (.bind fun y1 hy1=>.region fun e h=>?_))) h
 simp only [seval,EMB,ag_49,sz_49,ag_24,sz_24]
 refine SpecS.by (inp_checked_spec hy1) (by simp only [seval,FMB]) ?_
 simp only [seval,EMB]
 refine mU e (.sR fun e h=>?_) h
 simp only [seval,EMB]
 refine mU e (.cond rfl (fun hb4=>?_) (fun hb4=>?_)) h
 refine .seqK (.bind fun v1 hv5=>.region fun e h=>?_)
 simp only [seval,EMB]
 refine SpecS.inl Tryd.func29 rfl (by kernel_rfl) (by kernel_rfl) (fun v1 : Unit=>.tuple [.nil,.agg [.d (.int .i64 0),.d (.int .i64 0),.d (.int .i64 0),.d (.int .i64 0),.d (.int .i64 0),.d (.int .i64 0),.d (.int .i64 0),.d (.int .i64 0)],.agg [.d (.int .i64 0),.d (.int .i64 0),.d (.int .i64 0),.d (.int .i64 0),.d (.int .i64 0),.d (.int .i64 0),.d (.bool false)],.d (.int .i64 y1)]) (fun v1=>⟨[[.d (.int .i64 a0.Motion),.d (.int .i64 a0.Distance),.d (.int .i64 a0.Work),.d (.int .i64 a0.Length),.d (.int .i64 a0.Return),.d (.int .i64 a0.Feed),.d (.int .i64 a0.Tool),.d (.int .i64 a0.Offset)],[.d (.int .i64 a1.Code),.d (.int .i64 a1.R),.d (.int .i64 a1.Z),.d (.int .i64 a1.Q),.d (.int .i64 a1.Rate),.d (.int .i64 a1.Initial),.d (.bool a1.High)],[.d (.bool a2.Skip),.d (.list (List.map encApiWord a2.Words)),.d (.str a2.Comment)],[.d (.int .i64 a3.Work.e0.X),.d (.int .i64 a3.Work.e0.Y),.d (.int .i64 a3.Work.e0.Z),.d (.int .i64 a3.Work.e1.X),.d (.int .i64 a3.Work.e1.Y),.d (.int .i64 a3.Work.e1.Z),.d (.int .i64 a3.Work.e2.X),.d (.int .i64 a3.Work.e2.Y),.d (.int .i64 a3.Work.e2.Z),.d (.int .i64 a3.Work.e3.X),.d (.int .i64 a3.Work.e3.Y),.d (.int .i64 a3.Work.e3.Z),.d (.int .i64 a3.Work.e4.X),.d (.int .i64 a3.Work.e4.Y),.d (.int .i64 a3.Work.e4.Z),.d (.int .i64 a3.Work.e5.X),.d (.int .i64 a3.Work.e5.Y),.d (.int .i64 a3.Work.e5.Z),.d (.list (List.map encTableLength a3.Lengths))],[.d (.int .i64 a4.X),.d (.int .i64 a4.Y),.d (.int .i64 a4.Z)],[.d (.int .i64 0),.d (.int .i64 0),.d (.int .i64 0),.d (.int .i64 0),.d (.int .i64 0),.d (.int .i64 0),.d (.int .i64 0),.d (.int .i64 0)],[.d (.int .i64 0),.d (.int .i64 0),.d (.int .i64 0),.d (.int .i64 0),.d (.int .i64 0),.d (.int .i64 0),.d (.bool false)]],[]⟩) hv5 rfl ?_ ?_
 simp only [List.replicate,List.length,nS,nA,Tryd.ntmps29,SV]
 refine .sR fun e h=>?_
 simp only [seval,EMB,zero_34,zero_64]
 refine mU e (.sR fun e h=>?_) h
 simp only [seval,EMB,zero_34,pl_34,zero_64,pl_64,sz_34,sz_64]
 refine mU e (.ret fun e h=>?_) h
 cases h
 simp only [seval,FMB,Tryd.results29,ag_34,sz_34,ag_64,sz_64]
 simp only [seval,EMB,sz_34,sz_64]
 refine mU e (.ret fun e h=>?_) h
 cases h
 simp only [seval,FMB,Tryd.results18,ag_34,sz_34,ag_64,sz_64,fx_r,fx_n,xr_o,xr_n,rowT]
 refine .skip (Mir.toK (.seqK (.seqK (Mir.joinO (fun v2 : Bool=>([U,U,U,U,U,.ptr 0 0,.ptr 1 0,.ptr 2 0,.ptr 3 0,.ptr 4 0,U,.ptr 5 0,.ptr 6 0,U,U,U,U,U,U,U,U,U,U,U,U,U,U,U,U,U,U,U,U,U,U,U,U,U,U,U,U,U,U,U,U,U,U,.d (.bool v2)] ++ us 157)) (fun v2=>⟨[[.d (.int .i64 a0.Motion),.d (.int .i64 a0.Distance),.d (.int .i64 a0.Work),.d (.int .i64 a0.Length),.d (.int .i64 a0.Return),.d (.int .i64 a0.Feed),.d (.int .i64 a0.Tool),.d (.int .i64 a0.Offset)],[.d (.int .i64 a1.Code),.d (.int .i64 a1.R),.d (.int .i64 a1.Z),.d (.int .i64 a1.Q),.d (.int .i64 a1.Rate),.d (.int .i64 a1.Initial),.d (.bool a1.High)],[.d (.bool a2.Skip),.d (.list (List.map encApiWord a2.Words)),.d (.str a2.Comment)],[.d (.int .i64 a3.Work.e0.X),.d (.int .i64 a3.Work.e0.Y),.d (.int .i64 a3.Work.e0.Z),.d (.int .i64 a3.Work.e1.X),.d (.int .i64 a3.Work.e1.Y),.d (.int .i64 a3.Work.e1.Z),.d (.int .i64 a3.Work.e2.X),.d (.int .i64 a3.Work.e2.Y),.d (.int .i64 a3.Work.e2.Z),.d (.int .i64 a3.Work.e3.X),.d (.int .i64 a3.Work.e3.Y),.d (.int .i64 a3.Work.e3.Z),.d (.int .i64 a3.Work.e4.X),.d (.int .i64 a3.Work.e4.Y),.d (.int .i64 a3.Work.e4.Z),.d (.int .i64 a3.Work.e5.X),.d (.int .i64 a3.Work.e5.Y),.d (.int .i64 a3.Work.e5.Z),.d (.list (List.map encTableLength a3.Lengths))],[.d (.int .i64 a4.X),.d (.int .i64 a4.Y),.d (.int .i64 a4.Z)],[.d (.int .i64 0),.d (.int .i64 0),.d (.int .i64 0),.d (.int .i64 0),.d (.int .i64 0),.d (.int .i64 0),.d (.int .i64 0),.d (.int .i64 0)],[.d (.int .i64 0),.d (.int .i64 0),.d (.int .i64 0),.d (.int .i64 0),.d (.int .i64 0),.d (.int .i64 0),.d (.bool false)]],[]⟩) (fun _=>rfl) ?_ ?_))))
 refine .bind fun y2 hy6=>.ite (fun hb7=>?_) (fun hb7=>?_)
 refine .region fun e h=>?_
 simp only [seval,EMB,ag_41,sz_41,hb7]
 refine SpecS.by (bk_Valid_spec hy6) (by simp only [seval,FMB,hb7]) ?_
 simp only [seval,EMB,hb7]
 cases h
 simp only [seval,FMB,hb7]
 refine .bind fun y3 hy8=>.ite (fun hb9=>?_) (fun hb9=>?_)
 refine .region fun e h=>?_
 simp only [seval,EMB,ag_41,sz_41,hb7,hb9]
 refine SpecS.by (bk_Valid_spec hy6) (by simp only [seval,FMB,hb7,hb9]) ?_
 simp only [seval,EMB,ag_41,sz_41,hb7,hb9]
 refine SpecS.by (md_Check_spec hy8) (by simp only [seval,FMB,hb7,hb9]) ?_
 simp only [seval,EMB,hb7,hb9]
 cases h
 simp only [seval,FMB,hb7,hb9]
 refine .bind fun y4 hy10=>.region fun e h=>?_
 simp only [seval,EMB,ag_41,sz_41,hb7,hb9]
 refine SpecS.by (bk_Valid_spec hy6) (by simp only [seval,FMB,hb7,hb9]) ?_
 simp only [seval,EMB,ag_41,sz_41,hb7,hb9]
 refine SpecS.by (md_Check_spec hy8) (by simp only [seval,FMB,hb7,hb9]) ?_
 simp only [seval,EMB,ag_41,sz_41,hb7,hb9]
 refine SpecS.by (inp_known_spec hy10) (by simp only [seval,FMB,hb7,hb9]) ?_
 simp only [seval,EMB,hb7,hb9]
 cases h
 simp only [seval,FMB,hb7,hb9]
 intro v2
 refine Mir.toK (.cond rfl (fun hb13=>?_) (fun hb13=>?_))
 refine .seqK (.bind fun v3 hv14=>.region fun e h=>?_)
 simp only [seval,EMB]
 refine SpecS.inl Tryd.func29 rfl (by kernel_rfl) (by kernel_rfl) (fun v3 : Unit=>.tuple [.nil,.agg [.d (.int .i64 0),.d (.int .i64 0),.d (.int .i64 0),.d (.int .i64 0),.d (.int .i64 0),.d (.int .i64 0),.d (.int .i64 0),.d (.int .i64 0)],.agg [.d (.int .i64 0),.d (.int .i64 0),.d (.int .i64 0),.d (.int .i64 0),.d (.int .i64 0),.d (.int .i64 0),.d (.bool false)],.d (.int .i64 1)]) (fun v3=>⟨[[.d (.int .i64 a0.Motion),.d (.int .i64 a0.Distance),.d (.int .i64 a0.Work),.d (.int .i64 a0.Length),.d (.int .i64 a0.Return),.d (.int .i64 a0.Feed),.d (.int .i64 a0.Tool),.d (.int .i64 a0.Offset)],[.d (.int .i64 a1.Code),.d (.int .i64 a1.R),.d (.int .i64 a1.Z),.d (.int .i64 a1.Q),.d (.int .i64 a1.Rate),.d (.int .i64 a1.Initial),.d (.bool a1.High)],[.d (.bool a2.Skip),.d (.list (List.map encApiWord a2.Words)),.d (.str a2.Comment)],[.d (.int .i64 a3.Work.e0.X),.d (.int .i64 a3.Work.e0.Y),.d (.int .i64 a3.Work.e0.Z),.d (.int .i64 a3.Work.e1.X),.d (.int .i64 a3.Work.e1.Y),.d (.int .i64 a3.Work.e1.Z),.d (.int .i64 a3.Work.e2.X),.d (.int .i64 a3.Work.e2.Y),.d (.int .i64 a3.Work.e2.Z),.d (.int .i64 a3.Work.e3.X),.d (.int .i64 a3.Work.e3.Y),.d (.int .i64 a3.Work.e3.Z),.d (.int .i64 a3.Work.e4.X),.d (.int .i64 a3.Work.e4.Y),.d (.int .i64 a3.Work.e4.Z),.d (.int .i64 a3.Work.e5.X),.d (.int .i64 a3.Work.e5.Y),.d (.int .i64 a3.Work.e5.Z),.d (.list (List.map encTableLength a3.Lengths))],[.d (.int .i64 a4.X),.d (.int .i64 a4.Y),.d (.int .i64 a4.Z)],[.d (.int .i64 0),.d (.int .i64 0),.d (.int .i64 0),.d (.int .i64 0),.d (.int .i64 0),.d (.int .i64 0),.d (.int .i64 0),.d (.int .i64 0)],[.d (.int .i64 0),.d (.int .i64 0),.d (.int .i64 0),.d (.int .i64 0),.d (.int .i64 0),.d (.int .i64 0),.d (.bool false)]],[]⟩) hv14 rfl ?_ ?_
 simp only [List.replicate,List.length,nS,nA,Tryd.ntmps29,SV]
 refine .sR fun e h=>?_
 simp only [seval,EMB,zero_34,zero_64]
 refine mU e (.sR fun e h=>?_) h
 simp only [seval,EMB,zero_34,pl_34,zero_64,pl_64,sz_34,sz_64]
 refine mU e (.ret fun e h=>?_) h
 cases h
 simp only [seval,FMB,Tryd.results29,ag_34,sz_34,ag_64,sz_64]
 simp only [seval,EMB,sz_34,sz_64]
 refine mU e (.ret fun e h=>?_) h
 cases h
 simp only [seval,FMB,Tryd.results18,ag_34,sz_34,ag_64,sz_64,fx_r,fx_n,xr_o,xr_n,rowT]
 refine .skip (Mir.toK (.seqK (.bind fun y5 hy15=>.region fun e h=>?_)))
 simp only [seval,EMB,ag_34,sz_34,ag_41,sz_41]
 refine SpecS.by (md_Apply_spec hy15) (by simp only [seval,FMB]) ?_
 simp only [seval,EMB,sz_34]
 refine mU e (.seqK (.sR fun e h=>?_)) h
 simp only [seval,EMB]
 refine mU e (.cond rfl (fun hb18=>?_) (fun hb18=>?_)) h
 refine .seqK (.bind fun v4 hv19=>.region fun e h=>?_)
 simp only [seval,EMB]
 refine SpecS.inl Tryd.func29 rfl (by kernel_rfl) (by kernel_rfl) (fun v4 : Unit=>.tuple [.nil,.agg [.d (.int .i64 0),.d (.int .i64 0),.d (.int .i64 0),.d (.int .i64 0),.d (.int .i64 0),.d (.int .i64 0),.d (.int .i64 0),.d (.int .i64 0)],.agg [.d (.int .i64 0),.d (.int .i64 0),.d (.int .i64 0),.d (.int .i64 0),.d (.int .i64 0),.d (.int .i64 0),.d (.bool false)],.d (.int .i64 y5.2)]) (fun v4=>⟨[[.d (.int .i64 y5.1.Motion),.d (.int .i64 y5.1.Distance),.d (.int .i64 y5.1.Work),.d (.int .i64 y5.1.Length),.d (.int .i64 y5.1.Return),.d (.int .i64 y5.1.Feed),.d (.int .i64 y5.1.Tool),.d (.int .i64 y5.1.Offset)],[.d (.int .i64 a1.Code),.d (.int .i64 a1.R),.d (.int .i64 a1.Z),.d (.int .i64 a1.Q),.d (.int .i64 a1.Rate),.d (.int .i64 a1.Initial),.d (.bool a1.High)],[.d (.bool a2.Skip),.d (.list (List.map encApiWord a2.Words)),.d (.str a2.Comment)],[.d (.int .i64 a3.Work.e0.X),.d (.int .i64 a3.Work.e0.Y),.d (.int .i64 a3.Work.e0.Z),.d (.int .i64 a3.Work.e1.X),.d (.int .i64 a3.Work.e1.Y),.d (.int .i64 a3.Work.e1.Z),.d (.int .i64 a3.Work.e2.X),.d (.int .i64 a3.Work.e2.Y),.d (.int .i64 a3.Work.e2.Z),.d (.int .i64 a3.Work.e3.X),.d (.int .i64 a3.Work.e3.Y),.d (.int .i64 a3.Work.e3.Z),.d (.int .i64 a3.Work.e4.X),.d (.int .i64 a3.Work.e4.Y),.d (.int .i64 a3.Work.e4.Z),.d (.int .i64 a3.Work.e5.X),.d (.int .i64 a3.Work.e5.Y),.d (.int .i64 a3.Work.e5.Z),.d (.list (List.map encTableLength a3.Lengths))],[.d (.int .i64 a4.X),.d (.int .i64 a4.Y),.d (.int .i64 a4.Z)],[.d (.int .i64 0),.d (.int .i64 0),.d (.int .i64 0),.d (.int .i64 0),.d (.int .i64 0),.d (.int .i64 0),.d (.int .i64 0),.d (.int .i64 0)],[.d (.int .i64 0),.d (.int .i64 0),.d (.int .i64 0),.d (.int .i64 0),.d (.int .i64 0),.d (.int .i64 0),.d (.bool false)]],[]⟩) hv19 rfl ?_ ?_
 simp only [List.replicate,List.length,nS,nA,Tryd.ntmps29,SV]
 refine .sR fun e h=>?_
 simp only [seval,EMB,zero_34,zero_64]
 refine mU e (.sR fun e h=>?_) h
 simp only [seval,EMB,zero_34,pl_34,zero_64,pl_64,sz_34,sz_64]
 refine mU e (.ret fun e h=>?_) h
 cases h
 simp only [seval,FMB,Tryd.results29,ag_34,sz_34,ag_64,sz_64]
 simp only [seval,EMB,sz_34,sz_64]
 refine mU e (.ret fun e h=>?_) h
 cases h
 simp only [seval,FMB,Tryd.results18,ag_34,sz_34,ag_64,sz_64,fx_r,fx_n,xr_o,xr_n,rowT]
 refine .skip (Mir.toK (.seqK (.seqK (.bind fun y6 hy20=>.region fun e h=>?_))))
 simp only [seval,EMB,fld_34_0,sz_2,ag_2]
 refine SpecS.by (inp_cycles_spec hy20) (by simp only [seval,FMB]) ?_
 simp only [seval,EMB]
 refine mU e (Mir.joinO (fun v5 : CycleCycle=>([U,U,U,U,U,.ptr 0 0,.ptr 1 0,.ptr 2 0,.ptr 3 0,.ptr 4 0,U,.ptr 5 0,.ptr 6 0] ++ us 192)) (fun v5=>⟨[[.d (.int .i64 y5.1.Motion),.d (.int .i64 y5.1.Distance),.d (.int .i64 y5.1.Work),.d (.int .i64 y5.1.Length),.d (.int .i64 y5.1.Return),.d (.int .i64 y5.1.Feed),.d (.int .i64 y5.1.Tool),.d (.int .i64 y5.1.Offset)],[.d (.int .i64 v5.Code),.d (.int .i64 v5.R),.d (.int .i64 v5.Z),.d (.int .i64 v5.Q),.d (.int .i64 v5.Rate),.d (.int .i64 v5.Initial),.d (.bool v5.High)],[.d (.bool a2.Skip),.d (.list (List.map encApiWord a2.Words)),.d (.str a2.Comment)],[.d (.int .i64 a3.Work.e0.X),.d (.int .i64 a3.Work.e0.Y),.d (.int .i64 a3.Work.e0.Z),.d (.int .i64 a3.Work.e1.X),.d (.int .i64 a3.Work.e1.Y),.d (.int .i64 a3.Work.e1.Z),.d (.int .i64 a3.Work.e2.X),.d (.int .i64 a3.Work.e2.Y),.d (.int .i64 a3.Work.e2.Z),.d (.int .i64 a3.Work.e3.X),.d (.int .i64 a3.Work.e3.Y),.d (.int .i64 a3.Work.e3.Z),.d (.int .i64 a3.Work.e4.X),.d (.int .i64 a3.Work.e4.Y),.d (.int .i64 a3.Work.e4.Z),.d (.int .i64 a3.Work.e5.X),.d (.int .i64 a3.Work.e5.Y),.d (.int .i64 a3.Work.e5.Z),.d (.list (List.map encTableLength a3.Lengths))],[.d (.int .i64 a4.X),.d (.int .i64 a4.Y),.d (.int .i64 a4.Z)],[.d (.int .i64 0),.d (.int .i64 0),.d (.int .i64 0),.d (.int .i64 0),.d (.int .i64 0),.d (.int .i64 0),.d (.int .i64 0),.d (.int .i64 0)],[.d (.int .i64 0),.d (.int .i64 0),.d (.int .i64 0),.d (.int .i64 0),.d (.int .i64 0),.d (.int .i64 0),.d (.bool false)]],[]⟩) (fun _=>rfl) ?_ ?_) h
 refine .cond rfl (fun hb22=>?_) (fun hb22=>?_)
 refine .region fun e h=>?_
 simp only [seval,EMB,zero_64,pl_64,sz_64]
 cases h
 simp only [seval,FMB,Tryd.results18,ag_34,sz_34,ag_64,sz_64]
 refine .skip fun e h=>?_
 cases h
 simp only [seval,FMB,Tryd.results18,ag_34,sz_34,ag_64,sz_64]
 intro v5
 refine Mir.toK (.seqK (.seqK (.bind fun y7 hy23=>.region fun e h=>?_)))
 simp only [seval,EMB,ag_41,sz_41]
 refine SpecS.by (inp_has_spec hy23) (by simp only [seval,FMB]) ?_
 simp only [seval,EMB]
 refine mU e (.cond rfl (fun hb25=>?_) (fun hb25=>?_)) h
 refine .seqK (.regionD [(6,11)] (by kernel_rfl) fun e h=>?_)
 simp only [seval,EMB,SB,ag_34,sz_34,ag_64,sz_64]
 refine mU e (.ret fun e h=>?_) h
 cases h
 simp only [seval,FMB,Tryd.results18,ag_34,sz_34,ag_64,sz_64,fx_r,fx_n,xr_o,xr_n,rowT]
 refine .skip (Mir.toK (.seqK (.seqK (Mir.joinO (fun v6 : Bool=>([U,U,U,U,U,.ptr 0 0,.ptr 1 0,.ptr 2 0,.ptr 3 0,.ptr 4 0,U,.ptr 5 0,.ptr 6 0,U,U,U,U,U,U,U,U,U,U,U,U,U,U,U,U,U,U,U,U,U,U,U,U,U,U,U,U,U,U,U,U,U,U,U,U,U,U,U,U,U,U,U,U,U,U,U,U,U,U,U,U,U,U,U,U,U,U,U,U,U,U,U,U,U,U,U,U,U,U,U,U,U,U,U,U,U,U,U,U,U,U,U,U,U,.d (.bool v6)] ++ us 106)) (fun v6=>⟨[[.d (.int .i64 y5.1.Motion),.d (.int .i64 y5.1.Distance),.d (.int .i64 y5.1.Work),.d (.int .i64 y5.1.Length),.d (.int .i64 y5.1.Return),.d (.int .i64 y5.1.Feed),.d (.int .i64 y5.1.Tool),.d (.int .i64 y5.1.Offset)],[.d (.int .i64 v5.Code),.d (.int .i64 v5.R),.d (.int .i64 v5.Z),.d (.int .i64 v5.Q),.d (.int .i64 v5.Rate),.d (.int .i64 v5.Initial),.d (.bool v5.High)],[.d (.bool a2.Skip),.d (.list (List.map encApiWord a2.Words)),.d (.str a2.Comment)],[.d (.int .i64 a3.Work.e0.X),.d (.int .i64 a3.Work.e0.Y),.d (.int .i64 a3.Work.e0.Z),.d (.int .i64 a3.Work.e1.X),.d (.int .i64 a3.Work.e1.Y),.d (.int .i64 a3.Work.e1.Z),.d (.int .i64 a3.Work.e2.X),.d (.int .i64 a3.Work.e2.Y),.d (.int .i64 a3.Work.e2.Z),.d (.int .i64 a3.Work.e3.X),.d (.int .i64 a3.Work.e3.Y),.d (.int .i64 a3.Work.e3.Z),.d (.int .i64 a3.Work.e4.X),.d (.int .i64 a3.Work.e4.Y),.d (.int .i64 a3.Work.e4.Z),.d (.int .i64 a3.Work.e5.X),.d (.int .i64 a3.Work.e5.Y),.d (.int .i64 a3.Work.e5.Z),.d (.list (List.map encTableLength a3.Lengths))],[.d (.int .i64 a4.X),.d (.int .i64 a4.Y),.d (.int .i64 a4.Z)],[.d (.int .i64 0),.d (.int .i64 0),.d (.int .i64 0),.d (.int .i64 0),.d (.int .i64 0),.d (.int .i64 0),.d (.int .i64 0),.d (.int .i64 0)],[.d (.int .i64 0),.d (.int .i64 0),.d (.int .i64 0),.d (.int .i64 0),.d (.int .i64 0),.d (.int .i64 0),.d (.bool false)]],[]⟩) (fun _=>rfl) ?_ ?_))))
 refine .bind fun y8 hy26=>.ite (fun hb27=>?_) (fun hb27=>?_)
 refine .ite (fun hb28=>?_) (fun hb28=>?_)
 refine .ite (fun hb29=>?_) (fun hb29=>?_)
 refine .region fun e h=>?_
 simp only [seval,EMB,ag_41,sz_41,hb27,hb28,hb29]
 refine SpecS.by (inp_has_spec hy26) (by simp only [seval,FMB,hb27,hb28,hb29]) ?_
 simp only [seval,EMB,fld_34_0,sz_2,ag_2,hb27,hb28,hb29]
 cases h
 simp only [seval,FMB,hb27,hb28,hb29]
 refine .bind fun y9 hy30=>.ite (fun hb31=>?_) (fun hb31=>?_)
 refine .bind fun y10 hy32=>.region fun e h=>?_
 simp only [seval,EMB,ag_41,sz_41,hb27,hb28,hb29,hb31]
 refine SpecS.by (inp_has_spec hy26) (by simp only [seval,FMB,hb27,hb28,hb29,hb31]) ?_
 simp only [seval,EMB,fld_34_0,sz_2,ag_2,ag_41,sz_41,hb27,hb28,hb29,hb31]
 refine SpecS.by (inp_has_spec hy30) (by simp only [seval,FMB,hb27,hb28,hb29,hb31]) ?_
 simp only [seval,EMB,fld_34_0,sz_2,ag_2,hb27,hb28,hb29,hb31]
 refine SpecS.by (inp_cycles_spec hy32) (by simp only [seval,FMB,hb27,hb28,hb29,hb31]) ?_
 simp only [seval,EMB,hb27,hb28,hb29,hb31]
 cases h
 simp only [seval,FMB,hb27,hb28,hb29,hb31]
 refine .region fun e h=>?_
 simp only [seval,EMB,ag_41,sz_41,hb27,hb28,hb29,hb31]
 refine SpecS.by (inp_has_spec hy26) (by simp only [seval,FMB,hb27,hb28,hb29,hb31]) ?_
 simp only [seval,EMB,fld_34_0,sz_2,ag_2,ag_41,sz_41,hb27,hb28,hb29,hb31]
 refine SpecS.by (inp_has_spec hy30) (by simp only [seval,FMB,hb27,hb28,hb29,hb31]) ?_
 simp only [seval,EMB,hb27,hb28,hb29,hb31]
 cases h
 simp only [seval,FMB,hb27,hb28,hb29,hb31]
 refine .bind fun y11 hy33=>.ite (fun hb34=>?_) (fun hb34=>?_)
 refine .bind fun y12 hy35=>.region fun e h=>?_
 simp only [seval,EMB,ag_41,sz_41,hb27,hb28,hb34]
 refine SpecS.by (inp_has_spec hy26) (by simp only [seval,FMB,hb27,hb28,hb34]) ?_
 simp only [seval,EMB,fld_34_0,sz_2,ag_2,ag_41,sz_41,hb27,hb28,hb34]
 refine SpecS.by (inp_has_spec hy33) (by simp only [seval,FMB,hb27,hb28,hb34]) ?_
 simp only [seval,EMB,fld_34_0,sz_2,ag_2,hb27,hb28,hb34]
 refine SpecS.by (inp_cycles_spec hy35) (by simp only [seval,FMB,hb27,hb28,hb34]) ?_
 simp only [seval,EMB,hb27,hb28,hb34]
 cases h
 simp only [seval,FMB,hb27,hb28,hb34]
 refine .region fun e h=>?_
 simp only [seval,EMB,ag_41,sz_41,hb27,hb28,hb34]
 refine SpecS.by (inp_has_spec hy26) (by simp only [seval,FMB,hb27,hb28,hb34]) ?_
 simp only [seval,EMB,fld_34_0,sz_2,ag_2,ag_41,sz_41,hb27,hb28,hb34]
 refine SpecS.by (inp_has_spec hy33) (by simp only [seval,FMB,hb27,hb28,hb34]) ?_
 simp only [seval,EMB,hb27,hb28,hb34]
 cases h
 simp only [seval,FMB,hb27,hb28,hb34]
 refine .bind fun y13 hy36=>.ite (fun hb37=>?_) (fun hb37=>?_)
 refine .bind fun y14 hy38=>.region fun e h=>?_
 simp only [seval,EMB,ag_41,sz_41,hb27,hb37]
 refine SpecS.by (inp_has_spec hy26) (by simp only [seval,FMB,hb27,hb37]) ?_
 simp only [seval,EMB,ag_41,sz_41,hb27,hb37]
 refine SpecS.by (inp_has_spec hy36) (by simp only [seval,FMB,hb27,hb37]) ?_
 simp only [seval,EMB,fld_34_0,sz_2,ag_2,hb27,hb37]
 refine SpecS.by (inp_cycles_spec hy38) (by simp only [seval,FMB,hb27,hb37]) ?_
 simp only [seval,EMB,hb27,hb37]
 cases h
 simp only [seval,FMB,hb27,hb37]
 refine .region fun e h=>?_
 simp only [seval,EMB,ag_41,sz_41,hb27,hb37]
 refine SpecS.by (inp_has_spec hy26) (by simp only [seval,FMB,hb27,hb37]) ?_
 simp only [seval,EMB,ag_41,sz_41,hb27,hb37]
 refine SpecS.by (inp_has_spec hy36) (by simp only [seval,FMB,hb27,hb37]) ?_
 simp only [seval,EMB,hb27,hb37]
 cases h
 simp only [seval,FMB,hb27,hb37]
 intro v6
 refine Mir.toK (.cond rfl (fun hb41=>?_) (fun hb41=>?_))
 refine .seqK (.bind fun v7 hv42=>.region fun e h=>?_)
 simp only [seval,EMB]
 refine SpecS.inl Tryd.func29 rfl (by kernel_rfl) (by kernel_rfl) (fun v7 : Unit=>.tuple [.nil,.agg [.d (.int .i64 0),.d (.int .i64 0),.d (.int .i64 0),.d (.int .i64 0),.d (.int .i64 0),.d (.int .i64 0),.d (.int .i64 0),.d (.int .i64 0)],.agg [.d (.int .i64 0),.d (.int .i64 0),.d (.int .i64 0),.d (.int .i64 0),.d (.int .i64 0),.d (.int .i64 0),.d (.bool false)],.d (.int .i64 1)]) (fun v7=>⟨[[.d (.int .i64 y5.1.Motion),.d (.int .i64 y5.1.Distance),.d (.int .i64 y5.1.Work),.d (.int .i64 y5.1.Length),.d (.int .i64 y5.1.Return),.d (.int .i64 y5.1.Feed),.d (.int .i64 y5.1.Tool),.d (.int .i64 y5.1.Offset)],[.d (.int .i64 v5.Code),.d (.int .i64 v5.R),.d (.int .i64 v5.Z),.d (.int .i64 v5.Q),.d (.int .i64 v5.Rate),.d (.int .i64 v5.Initial),.d (.bool v5.High)],[.d (.bool a2.Skip),.d (.list (List.map encApiWord a2.Words)),.d (.str a2.Comment)],[.d (.int .i64 a3.Work.e0.X),.d (.int .i64 a3.Work.e0.Y),.d (.int .i64 a3.Work.e0.Z),.d (.int .i64 a3.Work.e1.X),.d (.int .i64 a3.Work.e1.Y),.d (.int .i64 a3.Work.e1.Z),.d (.int .i64 a3.Work.e2.X),.d (.int .i64 a3.Work.e2.Y),.d (.int .i64 a3.Work.e2.Z),.d (.int .i64 a3.Work.e3.X),.d (.int .i64 a3.Work.e3.Y),.d (.int .i64 a3.Work.e3.Z),.d (.int .i64 a3.Work.e4.X),.d (.int .i64 a3.Work.e4.Y),.d (.int .i64 a3.Work.e4.Z),.d (.int .i64 a3.Work.e5.X),.d (.int .i64 a3.Work.e5.Y),.d (.int .i64 a3.Work.e5.Z),.d (.list (List.map encTableLength a3.Lengths))],[.d (.int .i64 a4.X),.d (.int .i64 a4.Y),.d (.int .i64 a4.Z)],[.d (.int .i64 0),.d (.int .i64 0),.d (.int .i64 0),.d (.int .i64 0),.d (.int .i64 0),.d (.int .i64 0),.d (.int .i64 0),.d (.int .i64 0)],[.d (.int .i64 0),.d (.int .i64 0),.d (.int .i64 0),.d (.int .i64 0),.d (.int .i64 0),.d (.int .i64 0),.d (.bool false)]],[]⟩) hv42 rfl ?_ ?_
 simp only [List.replicate,List.length,nS,nA,Tryd.ntmps29,SV]
 refine .sR fun e h=>?_
 simp only [seval,EMB,zero_34,zero_64]
 refine mU e (.sR fun e h=>?_) h
 simp only [seval,EMB,zero_34,pl_34,zero_64,pl_64,sz_34,sz_64]
 refine mU e (.ret fun e h=>?_) h
 cases h
 simp only [seval,FMB,Tryd.results29,ag_34,sz_34,ag_64,sz_64]
 simp only [seval,EMB,sz_34,sz_64]
 refine mU e (.ret fun e h=>?_) h
 cases h
 simp only [seval,FMB,Tryd.results18,ag_34,sz_34,ag_64,sz_64,fx_r,fx_n,xr_o,xr_n,rowT]
 refine .skip (Mir.toK (.seqK (.seqK (.joinV ([U,U,U,U,U,.ptr 0 0,.ptr 1 0,.ptr 2 0,.ptr 3 0,.ptr 4 0,U,.ptr 5 0,.ptr 6 0,U,U,U,U,U,U,U,U,U,U,U,U,U,U,U,U,U,U,U,U,U,U,U,U,U,U,U,U,U,U,U,U,U,U,U,U,U,U,U,U,U,U,U,U,U,U,U,U,U,U,U,U,U,U,U,U,U,U,U,U,U,U,U,U,U,U,U,U,U,U,U,U,U,U,U,U,U,U,U,U,U,U,U,U,U,U,U,U,U,U,U,U,U,U,U,U,U,U,U,U,U,U,U,.d (.bool ((y5.1.Motion == 80000) || ((y5.1.Motion != 0) && (decide (y5.1.Feed ≤ 0)))))] ++ us 88) ⟨[[.d (.int .i64 y5.1.Motion),.d (.int .i64 y5.1.Distance),.d (.int .i64 y5.1.Work),.d (.int .i64 y5.1.Length),.d (.int .i64 y5.1.Return),.d (.int .i64 y5.1.Feed),.d (.int .i64 y5.1.Tool),.d (.int .i64 y5.1.Offset)],[.d (.int .i64 v5.Code),.d (.int .i64 v5.R),.d (.int .i64 v5.Z),.d (.int .i64 v5.Q),.d (.int .i64 v5.Rate),.d (.int .i64 v5.Initial),.d (.bool v5.High)],[.d (.bool a2.Skip),.d (.list (List.map encApiWord a2.Words)),.d (.str a2.Comment)],[.d (.int .i64 a3.Work.e0.X),.d (.int .i64 a3.Work.e0.Y),.d (.int .i64 a3.Work.e0.Z),.d (.int .i64 a3.Work.e1.X),.d (.int .i64 a3.Work.e1.Y),.d (.int .i64 a3.Work.e1.Z),.d (.int .i64 a3.Work.e2.X),.d (.int .i64 a3.Work.e2.Y),.d (.int .i64 a3.Work.e2.Z),.d (.int .i64 a3.Work.e3.X),.d (.int .i64 a3.Work.e3.Y),.d (.int .i64 a3.Work.e3.Z),.d (.int .i64 a3.Work.e4.X),.d (.int .i64 a3.Work.e4.Y),.d (.int .i64 a3.Work.e4.Z),.d (.int .i64 a3.Work.e5.X),.d (.int .i64 a3.Work.e5.Y),.d (.int .i64 a3.Work.e5.Z),.d (.list (List.map encTableLength a3.Lengths))],[.d (.int .i64 a4.X),.d (.int .i64 a4.Y),.d (.int .i64 a4.Z)],[.d (.int .i64 0),.d (.int .i64 0),.d (.int .i64 0),.d (.int .i64 0),.d (.int .i64 0),.d (.int .i64 0),.d (.int .i64 0),.d (.int .i64 0)],[.d (.int .i64 0),.d (.int .i64 0),.d (.int .i64 0),.d (.int .i64 0),.d (.int .i64 0),.d (.int .i64 0),.d (.bool false)]],[]⟩ rfl ?_ ?_))))
 refine SWs.region ?_
 rcases Bool.eq_false_or_eq_true (y5.1.Motion == 80000) with hb43 | hb43
 simp only [seval,EMB,SL,PB,fld_34_0,sz_2,ag_2,hb43]
 rcases Bool.eq_false_or_eq_true (y5.1.Motion != 0) with hb44 | hb44
 simp only [seval,EMB,SL,PB,fld_34_0,sz_2,ag_2,fld_34_5,hb43,hb44]
 simp only [seval,EMB,SL,PB,fld_34_0,sz_2,ag_2,hb43,hb44]
 refine Mir.toK (.cond rfl (fun hb47=>?_) (fun hb47=>?_))
 refine .seqK (.bind fun v8 hv48=>.region fun e h=>?_)
 simp only [seval,EMB]
 refine SpecS.inl Tryd.func29 rfl (by kernel_rfl) (by kernel_rfl) (fun v8 : Unit=>.tuple [.nil,.agg [.d (.int .i64 0),.d (.int .i64 0),.d (.int .i64 0),.d (.int .i64 0),.d (.int .i64 0),.d (.int .i64 0),.d (.int .i64 0),.d (.int .i64 0)],.agg [.d (.int .i64 0),.d (.int .i64 0),.d (.int .i64 0),.d (.int .i64 0),.d (.int .i64 0),.d (.int .i64 0),.d (.bool false)],.d (.int .i64 13)]) (fun v8=>⟨[[.d (.int .i64 y5.1.Motion),.d (.int .i64 y5.1.Distance),.d (.int .i64 y5.1.Work),.d (.int .i64 y5.1.Length),.d (.int .i64 y5.1.Return),.d (.int .i64 y5.1.Feed),.d (.int .i64 y5.1.Tool),.d (.int .i64 y5.1.Offset)],[.d (.int .i64 v5.Code),.d (.int .i64 v5.R),.d (.int .i64 v5.Z),.d (.int .i64 v5.Q),.d (.int .i64 v5.Rate),.d (.int .i64 v5.Initial),.d (.bool v5.High)],[.d (.bool a2.Skip),.d (.list (List.map encApiWord a2.Words)),.d (.str a2.Comment)],[.d (.int .i64 a3.Work.e0.X),.d (.int .i64 a3.Work.e0.Y),.d (.int .i64 a3.Work.e0.Z),.d (.int .i64 a3.Work.e1.X),.d (.int .i64 a3.Work.e1.Y),.d (.int .i64 a3.Work.e1.Z),.d (.int .i64 a3.Work.e2.X),.d (.int .i64 a3.Work.e2.Y),.d (.int .i64 a3.Work.e2.Z),.d (.int .i64 a3.Work.e3.X),.d (.int .i64 a3.Work.e3.Y),.d (.int .i64 a3.Work.e3.Z),.d (.int .i64 a3.Work.e4.X),.d (.int .i64 a3.Work.e4.Y),.d (.int .i64 a3.Work.e4.Z),.d (.int .i64 a3.Work.e5.X),.d (.int .i64 a3.Work.e5.Y),.d (.int .i64 a3.Work.e5.Z),.d (.list (List.map encTableLength a3.Lengths))],[.d (.int .i64 a4.X),.d (.int .i64 a4.Y),.d (.int .i64 a4.Z)],[.d (.int .i64 0),.d (.int .i64 0),.d (.int .i64 0),.d (.int .i64 0),.d (.int .i64 0),.d (.int .i64 0),.d (.int .i64 0),.d (.int .i64 0)],[.d (.int .i64 0),.d (.int .i64 0),.d (.int .i64 0),.d (.int .i64 0),.d (.int .i64 0),.d (.int .i64 0),.d (.bool false)]],[]⟩) hv48 rfl ?_ ?_
 simp only [List.replicate,List.length,nS,nA,Tryd.ntmps29,SV]
 refine .sR fun e h=>?_
 simp only [seval,EMB,zero_34,zero_64]
 refine mU e (.sR fun e h=>?_) h
 simp only [seval,EMB,zero_34,pl_34,zero_64,pl_64,sz_34,sz_64]
 refine mU e (.ret fun e h=>?_) h
 cases h
 simp only [seval,FMB,Tryd.results29,ag_34,sz_34,ag_64,sz_64]
 simp only [seval,EMB,sz_34,sz_64]
 refine mU e (.ret fun e h=>?_) h
 cases h
 simp only [seval,FMB,Tryd.results18,ag_34,sz_34,ag_64,sz_64,fx_r,fx_n,xr_o,xr_n,rowT]
 refine .skip (Mir.toK (.sR fun e h=>?_))
 simp only [seval,EMB]
 refine mU e (.seqK (.sR fun e h=>?_)) h
 simp only [seval,EMB,fld_34_3,sz_2,ag_2]
 refine mU e (Mir.joinO (fun v9 : Int=>([U,U,U,U,U,.ptr 0 0,.ptr 1 0,.ptr 2 0,.ptr 3 0,.ptr 4 0,U,.ptr 5 0,.ptr 6 0,U,U,U,.d (.int .i64 v9)] ++ us 188)) (fun v9=>⟨[[.d (.int .i64 y5.1.Motion),.d (.int .i64 y5.1.Distance),.d (.int .i64 y5.1.Work),.d (.int .i64 y5.1.Length),.d (.int .i64 y5.1.Return),.d (.int .i64 y5.1.Feed),.d (.int .i64 y5.1.Tool),.d (.int .i64 y5.1.Offset)],[.d (.int .i64 v5.Code),.d (.int .i64 v5.R),.d (.int .i64 v5.Z),.d (.int .i64 v5.Q),.d (.int .i64 v5.Rate),.d (.int .i64 v5.Initial),.d (.bool v5.High)],[.d (.bool a2.Skip),.d (.list (List.map encApiWord a2.Words)),.d (.str a2.Comment)],[.d (.int .i64 a3.Work.e0.X),.d (.int .i64 a3.Work.e0.Y),.d (.int .i64 a3.Work.e0.Z),.d (.int .i64 a3.Work.e1.X),.d (.int .i64 a3.Work.e1.Y),.d (.int .i64 a3.Work.e1.Z),.d (.int .i64 a3.Work.e2.X),.d (.int .i64 a3.Work.e2.Y),.d (.int .i64 a3.Work.e2.Z),.d (.int .i64 a3.Work.e3.X),.d (.int .i64 a3.Work.e3.Y),.d (.int .i64 a3.Work.e3.Z),.d (.int .i64 a3.Work.e4.X),.d (.int .i64 a3.Work.e4.Y),.d (.int .i64 a3.Work.e4.Z),.d (.int .i64 a3.Work.e5.X),.d (.int .i64 a3.Work.e5.Y),.d (.int .i64 a3.Work.e5.Z),.d (.list (List.map encTableLength a3.Lengths))],[.d (.int .i64 a4.X),.d (.int .i64 a4.Y),.d (.int .i64 a4.Z)],[.d (.int .i64 0),.d (.int .i64 0),.d (.int .i64 0),.d (.int .i64 0),.d (.int .i64 0),.d (.int .i64 0),.d (.int .i64 0),.d (.int .i64 0)],[.d (.int .i64 0),.d (.int .i64 0),.d (.int .i64 0),.d (.int .i64 0),.d (.int .i64 0),.d (.int .i64 0),.d (.bool false)]],[]⟩) (fun _=>rfl) ?_ ?_) h
 refine .cond rfl (fun hb50=>?_) (fun hb50=>?_)
 refine .region fun e h=>?_
 simp only [seval,EMB,fld_34_7,sz_2,ag_2]
 cases h
 simp only [seval,FMB,Tryd.results18,ag_34,sz_34,ag_64,sz_64]
 refine .skip fun e h=>?_
 cases h
 simp only [seval,FMB,Tryd.results18,ag_34,sz_34,ag_64,sz_64]
 intro v9
 refine Mir.toK (.seqK (.bind fun y15 hy51=>.region fun e h=>?_))
 simp only [seval,EMB,ag_49,sz_49,fld_34_2,sz_2,ag_2,ag_24,sz_24]
 refine SpecS.by (tb_Work_spec hy51) (by simp only [seval,FMB]) ?_
 simp only [seval,EMB,zero_24,sz_24]
 refine mU e (.seqK (.sR fun e h=>?_)) h
 simp only [seval,EMB]
 refine mU e (.cond rfl (fun hb54=>?_) (fun hb54=>?_)) h
 refine .seqK (.bind fun v10 hv55=>.region fun e h=>?_)
 simp only [seval,EMB]
 refine SpecS.inl Tryd.func29 rfl (by kernel_rfl) (by kernel_rfl) (fun v10 : Unit=>.tuple [.nil,.agg [.d (.int .i64 0),.d (.int .i64 0),.d (.int .i64 0),.d (.int .i64 0),.d (.int .i64 0),.d (.int .i64 0),.d (.int .i64 0),.d (.int .i64 0)],.agg [.d (.int .i64 0),.d (.int .i64 0),.d (.int .i64 0),.d (.int .i64 0),.d (.int .i64 0),.d (.int .i64 0),.d (.bool false)],.d (.int .i64 y15.2)]) (fun v10=>⟨[[.d (.int .i64 y5.1.Motion),.d (.int .i64 y5.1.Distance),.d (.int .i64 y5.1.Work),.d (.int .i64 y5.1.Length),.d (.int .i64 y5.1.Return),.d (.int .i64 y5.1.Feed),.d (.int .i64 y5.1.Tool),.d (.int .i64 y5.1.Offset)],[.d (.int .i64 v5.Code),.d (.int .i64 v5.R),.d (.int .i64 v5.Z),.d (.int .i64 v5.Q),.d (.int .i64 v5.Rate),.d (.int .i64 v5.Initial),.d (.bool v5.High)],[.d (.bool a2.Skip),.d (.list (List.map encApiWord a2.Words)),.d (.str a2.Comment)],[.d (.int .i64 a3.Work.e0.X),.d (.int .i64 a3.Work.e0.Y),.d (.int .i64 a3.Work.e0.Z),.d (.int .i64 a3.Work.e1.X),.d (.int .i64 a3.Work.e1.Y),.d (.int .i64 a3.Work.e1.Z),.d (.int .i64 a3.Work.e2.X),.d (.int .i64 a3.Work.e2.Y),.d (.int .i64 a3.Work.e2.Z),.d (.int .i64 a3.Work.e3.X),.d (.int .i64 a3.Work.e3.Y),.d (.int .i64 a3.Work.e3.Z),.d (.int .i64 a3.Work.e4.X),.d (.int .i64 a3.Work.e4.Y),.d (.int .i64 a3.Work.e4.Z),.d (.int .i64 a3.Work.e5.X),.d (.int .i64 a3.Work.e5.Y),.d (.int .i64 a3.Work.e5.Z),.d (.list (List.map encTableLength a3.Lengths))],[.d (.int .i64 a4.X),.d (.int .i64 a4.Y),.d (.int .i64 a4.Z)],[.d (.int .i64 0),.d (.int .i64 0),.d (.int .i64 0),.d (.int .i64 0),.d (.int .i64 0),.d (.int .i64 0),.d (.int .i64 0),.d (.int .i64 0)],[.d (.int .i64 0),.d (.int .i64 0),.d (.int .i64 0),.d (.int .i64 0),.d (.int .i64 0),.d (.int .i64 0),.d (.bool false)],[.d (.int .i64 y15.1.X),.d (.int .i64 y15.1.Y),.d (.int .i64 y15.1.Z)]],[]⟩) hv55 rfl ?_ ?_
 simp only [List.replicate,List.length,nS,nA,Tryd.ntmps29,SV]
 refine .sR fun e h=>?_
 simp only [seval,EMB,zero_34,zero_64]
 refine mU e (.sR fun e h=>?_) h
 simp only [seval,EMB,zero_34,pl_34,zero_64,pl_64,sz_34,sz_64]
 refine mU e (.ret fun e h=>?_) h
 cases h
 simp only [seval,FMB,Tryd.results29,ag_34,sz_34,ag_64,sz_64]
 simp only [seval,EMB,sz_34,sz_64]
 refine mU e (.ret fun e h=>?_) h
 cases h
 simp only [seval,FMB,Tryd.results18,ag_34,sz_34,ag_64,sz_64,fx_r,fx_n,xr_o,xr_n,rowT]
 refine .skip (Mir.toK (.seqK (.bind fun y16 hy56=>.region fun e h=>?_)))
 simp only [seval,EMB,ag_34,sz_34,ag_64,sz_64,ag_41,sz_41,ag_24,sz_24]
 refine SpecS.by (inp_positions_spec hy56) (by simp only [seval,FMB]) ?_
 simp only [seval,EMB,sz_64]
 refine mU e (.seqK (.sR fun e h=>?_)) h
 simp only [seval,EMB]
 refine mU e (.cond rfl (fun hb59=>?_) (fun hb59=>?_)) h
 refine .seqK (.bind fun v11 hv60=>.region fun e h=>?_)
 simp only [seval,EMB]
 refine SpecS.inl Tryd.func29 rfl (by kernel_rfl) (by kernel_rfl) (fun v11 : Unit=>.tuple [.nil,.agg [.d (.int .i64 0),.d (.int .i64 0),.d (.int .i64 0),.d (.int .i64 0),.d (.int .i64 0),.d (.int .i64 0),.d (.int .i64 0),.d (.int .i64 0)],.agg [.d (.int .i64 0),.d (.int .i64 0),.d (.int .i64 0),.d (.int .i64 0),.d (.int .i64 0),.d (.int .i64 0),.d (.bool false)],.d (.int .i64 y16.2.2)]) (fun v11=>⟨[[.d (.int .i64 y5.1.Motion),.d (.int .i64 y5.1.Distance),.d (.int .i64 y5.1.Work),.d (.int .i64 y5.1.Length),.d (.int .i64 y5.1.Return),.d (.int .i64 y5.1.Feed),.d (.int .i64 y5.1.Tool),.d (.int .i64 y5.1.Offset)],[.d (.int .i64 y16.2.1.Code),.d (.int .i64 y16.2.1.R),.d (.int .i64 y16.2.1.Z),.d (.int .i64 y16.2.1.Q),.d (.int .i64 y16.2.1.Rate),.d (.int .i64 y16.2.1.Initial),.d (.bool y16.2.1.High)],[.d (.bool a2.Skip),.d (.list (List.map encApiWord a2.Words)),.d (.str a2.Comment)],[.d (.int .i64 a3.Work.e0.X),.d (.int .i64 a3.Work.e0.Y),.d (.int .i64 a3.Work.e0.Z),.d (.int .i64 a3.Work.e1.X),.d (.int .i64 a3.Work.e1.Y),.d (.int .i64 a3.Work.e1.Z),.d (.int .i64 a3.Work.e2.X),.d (.int .i64 a3.Work.e2.Y),.d (.int .i64 a3.Work.e2.Z),.d (.int .i64 a3.Work.e3.X),.d (.int .i64 a3.Work.e3.Y),.d (.int .i64 a3.Work.e3.Z),.d (.int .i64 a3.Work.e4.X),.d (.int .i64 a3.Work.e4.Y),.d (.int .i64 a3.Work.e4.Z),.d (.int .i64 a3.Work.e5.X),.d (.int .i64 a3.Work.e5.Y),.d (.int .i64 a3.Work.e5.Z),.d (.list (List.map encTableLength a3.Lengths))],[.d (.int .i64 a4.X),.d (.int .i64 a4.Y),.d (.int .i64 a4.Z)],[.d (.int .i64 0),.d (.int .i64 0),.d (.int .i64 0),.d (.int .i64 0),.d (.int .i64 0),.d (.int .i64 0),.d (.int .i64 0),.d (.int .i64 0)],[.d (.int .i64 0),.d (.int .i64 0),.d (.int .i64 0),.d (.int .i64 0),.d (.int .i64 0),.d (.int .i64 0),.d (.bool false)],[.d (.int .i64 y15.1.X),.d (.int .i64 y15.1.Y),.d (.int .i64 y15.1.Z)]],[]⟩) hv60 rfl ?_ ?_
 simp only [List.replicate,List.length,nS,nA,Tryd.ntmps29,SV]
 refine .sR fun e h=>?_
 simp only [seval,EMB,zero_34,zero_64]
 refine mU e (.sR fun e h=>?_) h
 simp only [seval,EMB,zero_34,pl_34,zero_64,pl_64,sz_34,sz_64]
 refine mU e (.ret fun e h=>?_) h
 cases h
 simp only [seval,FMB,Tryd.results29,ag_34,sz_34,ag_64,sz_64]
 simp only [seval,EMB,sz_34,sz_64]
 refine mU e (.ret fun e h=>?_) h
 cases h
 simp only [seval,FMB,Tryd.results18,ag_34,sz_34,ag_64,sz_64,fx_r,fx_n,xr_o,xr_n,rowT]
 refine .skip (Mir.toK (.sR fun e h=>?_))
 simp only [seval,EMB]
 refine mU e (.seqK (.sR fun e h=>?_)) h
 simp only [seval,EMB,und_89]
 refine mU e (.gh [.slot 19 54] rfl (Mir.join (fun v15 : (List ApiMotion) × ApiPos=>([U,U,U,U,U,.ptr 0 0,.ptr 1 0,U,U,U,U,.ptr 5 0,.ptr 6 0,U,U,U,U,U,U,.own 0 (List.map encApiMotion v15.1)] ++ us 185)) (fun v15=>⟨[[.d (.int .i64 y5.1.Motion),.d (.int .i64 y5.1.Distance),.d (.int .i64 y5.1.Work),.d (.int .i64 y5.1.Length),.d (.int .i64 y5.1.Return),.d (.int .i64 y5.1.Feed),.d (.int .i64 y5.1.Tool),.d (.int .i64 y5.1.Offset)],[.d (.int .i64 y16.2.1.Code),.d (.int .i64 y16.2.1.R),.d (.int .i64 y16.2.1.Z),.d (.int .i64 y16.2.1.Q),.d (.int .i64 y16.2.1.Rate),.d (.int .i64 y16.2.1.Initial),.d (.bool y16.2.1.High)],[.d (.bool a2.Skip),.d (.list (List.map encApiWord a2.Words)),.d (.str a2.Comment)],[.d (.int .i64 a3.Work.e0.X),.d (.int .i64 a3.Work.e0.Y),.d (.int .i64 a3.Work.e0.Z),.d (.int .i64 a3.Work.e1.X),.d (.int .i64 a3.Work.e1.Y),.d (.int .i64 a3.Work.e1.Z),.d (.int .i64 a3.Work.e2.X),.d (.int .i64 a3.Work.e2.Y),.d (.int .i64 a3.Work.e2.Z),.d (.int .i64 a3.Work.e3.X),.d (.int .i64 a3.Work.e3.Y),.d (.int .i64 a3.Work.e3.Z),.d (.int .i64 a3.Work.e4.X),.d (.int .i64 a3.Work.e4.Y),.d (.int .i64 a3.Work.e4.Z),.d (.int .i64 a3.Work.e5.X),.d (.int .i64 a3.Work.e5.Y),.d (.int .i64 a3.Work.e5.Z),.d (.list (List.map encTableLength a3.Lengths))],[.d (.int .i64 v15.2.X),.d (.int .i64 v15.2.Y),.d (.int .i64 v15.2.Z)],[.d (.int .i64 0),.d (.int .i64 0),.d (.int .i64 0),.d (.int .i64 0),.d (.int .i64 0),.d (.int .i64 0),.d (.int .i64 0),.d (.int .i64 0)],[.d (.int .i64 0),.d (.int .i64 0),.d (.int .i64 0),.d (.int .i64 0),.d (.int .i64 0),.d (.int .i64 0),.d (.bool false)],[.d (.int .i64 y15.1.X),.d (.int .i64 y15.1.Y),.d (.int .i64 y15.1.Z)]],[(54,v15.1.length)]⟩) (fun _=>rfl) ?_ ?_)) h
 refine .block (.guard fun q1=>Mir.range (fun (i1 : Nat) (v12 : (List ApiMotion) × ApiPos)=>([U,U,U,U,U,.ptr 0 0,.ptr 1 0,U,.ptr 3 0,.ptr 4 0,U,.ptr 5 0,.ptr 6 0,U,U,U,.d (.int .i64 v9),U,U,.own 0 (List.map encApiMotion v12.1),U,U,U,U,U,U,U,U,U,U,U,U,U,U,U,U,U,U,U,U,U,U,U,U,U,U,U,U,U,U,U,U,U,U,U,U,U,U,U,U,U,U,U,U,U,U,U,U,U,U,U,U,U,U,U,U,U,U,U,U,U,U,U,U,U,U,U,U,U,U,U,U,U,U,U,U,U,U,U,U,U,U,U,U,U,U,U,U,U,U,U,U,U,U,U,U,U,U,U,U,U,U,U,U,U,U,U,U,U,U,U,U,U,U,U,U,U,U,U,U,U,U,U,U,U,U,U,U,U,U,U,U,U,U,U,U,U,U,U,U,U,U,.d (.list (List.map encInterpreterReached y16.1)),.d (.int .i64 (y16.1.length : Int)),.d (.int .i64 (i1 : Int))] ++ us 40)) (fun i1 v12=>⟨[[.d (.int .i64 y5.1.Motion),.d (.int .i64 y5.1.Distance),.d (.int .i64 y5.1.Work),.d (.int .i64 y5.1.Length),.d (.int .i64 y5.1.Return),.d (.int .i64 y5.1.Feed),.d (.int .i64 y5.1.Tool),.d (.int .i64 y5.1.Offset)],[.d (.int .i64 y16.2.1.Code),.d (.int .i64 y16.2.1.R),.d (.int .i64 y16.2.1.Z),.d (.int .i64 y16.2.1.Q),.d (.int .i64 y16.2.1.Rate),.d (.int .i64 y16.2.1.Initial),.d (.bool y16.2.1.High)],[.d (.bool a2.Skip),.d (.list (List.map encApiWord a2.Words)),.d (.str a2.Comment)],[.d (.int .i64 a3.Work.e0.X),.d (.int .i64 a3.Work.e0.Y),.d (.int .i64 a3.Work.e0.Z),.d (.int .i64 a3.Work.e1.X),.d (.int .i64 a3.Work.e1.Y),.d (.int .i64 a3.Work.e1.Z),.d (.int .i64 a3.Work.e2.X),.d (.int .i64 a3.Work.e2.Y),.d (.int .i64 a3.Work.e2.Z),.d (.int .i64 a3.Work.e3.X),.d (.int .i64 a3.Work.e3.Y),.d (.int .i64 a3.Work.e3.Z),.d (.int .i64 a3.Work.e4.X),.d (.int .i64 a3.Work.e4.Y),.d (.int .i64 a3.Work.e4.Z),.d (.int .i64 a3.Work.e5.X),.d (.int .i64 a3.Work.e5.Y),.d (.int .i64 a3.Work.e5.Z),.d (.list (List.map encTableLength a3.Lengths))],[.d (.int .i64 v12.2.X),.d (.int .i64 v12.2.Y),.d (.int .i64 v12.2.Z)],[.d (.int .i64 0),.d (.int .i64 0),.d (.int .i64 0),.d (.int .i64 0),.d (.int .i64 0),.d (.int .i64 0),.d (.int .i64 0),.d (.int .i64 0)],[.d (.int .i64 0),.d (.int .i64 0),.d (.int .i64 0),.d (.int .i64 0),.d (.int .i64 0),.d (.int .i64 0),.d (.bool false)],[.d (.int .i64 y15.1.X),.d (.int .i64 y15.1.Y),.d (.int .i64 y15.1.Z)]],[(54,v12.1.length)]⟩) q1 (fun _ _=>rfl) (by simp only [seval,FMB,zNI]) (by simp only [seval,FMB,zNI]) ?_ ?_)
 intro i1 e1 v12 q2
 refine .sR fun e h=>?_
 simp only [seval,EMB,q2]
 refine mU e (.seqK (.condT rfl (.skip (Mir.toK (.seqK (.block (.sR fun e h=>?_))))))) h
 simp only [seval,EMB,und_89,sz_93,q2,Int.toNat_natCast,ag_93,zero_93]
 refine mU e (.seqK (.bind fun y17 h1=>.region fun e h=>?_)) h
 simp only [seval,EMB,ag_49,sz_49,fld_34_2,sz_2,ag_2,fld_93_0,sz_24,ag_24]
 refine SpecS.by (tb_Machine_spec h1) (by simp only [seval,FMB]) ?_
 simp only [seval,EMB,zero_24,sz_24]
 refine mU e (.seqK (.sR fun e h=>?_)) h
 simp only [seval,EMB]
 refine mU e (.cond rfl (fun h2=>?_) (fun h2=>?_)) h
 refine .seqK (.bind fun v13 h3=>.region fun e h=>?_)
 simp only [seval,EMB]
 refine SpecS.inl Tryd.func29 rfl (by kernel_rfl) (by kernel_rfl) (fun v13 : Unit=>.tuple [.nil,.agg [.d (.int .i64 0),.d (.int .i64 0),.d (.int .i64 0),.d (.int .i64 0),.d (.int .i64 0),.d (.int .i64 0),.d (.int .i64 0),.d (.int .i64 0)],.agg [.d (.int .i64 0),.d (.int .i64 0),.d (.int .i64 0),.d (.int .i64 0),.d (.int .i64 0),.d (.int .i64 0),.d (.bool false)],.d (.int .i64 y17.2)]) (fun v13=>⟨[[.d (.int .i64 y5.1.Motion),.d (.int .i64 y5.1.Distance),.d (.int .i64 y5.1.Work),.d (.int .i64 y5.1.Length),.d (.int .i64 y5.1.Return),.d (.int .i64 y5.1.Feed),.d (.int .i64 y5.1.Tool),.d (.int .i64 y5.1.Offset)],[.d (.int .i64 y16.2.1.Code),.d (.int .i64 y16.2.1.R),.d (.int .i64 y16.2.1.Z),.d (.int .i64 y16.2.1.Q),.d (.int .i64 y16.2.1.Rate),.d (.int .i64 y16.2.1.Initial),.d (.bool y16.2.1.High)],[.d (.bool a2.Skip),.d (.list (List.map encApiWord a2.Words)),.d (.str a2.Comment)],[.d (.int .i64 a3.Work.e0.X),.d (.int .i64 a3.Work.e0.Y),.d (.int .i64 a3.Work.e0.Z),.d (.int .i64 a3.Work.e1.X),.d (.int .i64 a3.Work.e1.Y),.d (.int .i64 a3.Work.e1.Z),.d (.int .i64 a3.Work.e2.X),.d (.int .i64 a3.Work.e2.Y),.d (.int .i64 a3.Work.e2.Z),.d (.int .i64 a3.Work.e3.X),.d (.int .i64 a3.Work.e3.Y),.d (.int .i64 a3.Work.e3.Z),.d (.int .i64 a3.Work.e4.X),.d (.int .i64 a3.Work.e4.Y),.d (.int .i64 a3.Work.e4.Z),.d (.int .i64 a3.Work.e5.X),.d (.int .i64 a3.Work.e5.Y),.d (.int .i64 a3.Work.e5.Z),.d (.list (List.map encTableLength a3.Lengths))],[.d (.int .i64 v12.2.X),.d (.int .i64 v12.2.Y),.d (.int .i64 v12.2.Z)],[.d (.int .i64 0),.d (.int .i64 0),.d (.int .i64 0),.d (.int .i64 0),.d (.int .i64 0),.d (.int .i64 0),.d (.int .i64 0),.d (.int .i64 0)],[.d (.int .i64 0),.d (.int .i64 0),.d (.int .i64 0),.d (.int .i64 0),.d (.int .i64 0),.d (.int .i64 0),.d (.bool false)],[.d (.int .i64 y15.1.X),.d (.int .i64 y15.1.Y),.d (.int .i64 y15.1.Z)],[.d (.int .i64 e1.at_.X),.d (.int .i64 e1.at_.Y),.d (.int .i64 e1.at_.Z),.d (.int .i64 e1.rate)],[.d (.int .i64 y17.1.X),.d (.int .i64 y17.1.Y),.d (.int .i64 y17.1.Z)]],[(54,v12.1.length)]⟩) h3 rfl ?_ ?_
 simp only [List.replicate,List.length,nS,nA,Tryd.ntmps29,SV]
 refine .sR fun e h=>?_
 simp only [seval,EMB,zero_34,zero_64]
 refine mU e (.sR fun e h=>?_) h
 simp only [seval,EMB,zero_34,pl_34,zero_64,pl_64,sz_34,sz_64]
 refine mU e (.ret fun e h=>?_) h
 cases h
 simp only [seval,FMB,Tryd.results29,ag_34,sz_34,ag_64,sz_64]
 simp only [seval,EMB,sz_34,sz_64]
 refine mU e (.ret fun e h=>?_) h
 cases h
 simp only [seval,FMB,Tryd.results18,ag_34,sz_34,ag_64,sz_64,fx_r,fx_n,xr_o,xr_n,rowT]
 refine .skip (Mir.toK (.seqK (.sR fun e h=>?_)))
 simp only [seval,EMB,ag_24,sz_24,gE_24]
 refine mU e (Mir.joinO (fun v14 : (List ApiMotion)=>([U,U,U,U,U,.ptr 0 0,.ptr 1 0,U,.ptr 3 0,.ptr 4 0,U,.ptr 5 0,.ptr 6 0,U,U,U,.d (.int .i64 v9),U,U,.own 0 (List.map encApiMotion v14),U,U,.ptr 9 0,U,U,U,U,U,U,U,U,U,U,U,U,U,U,U,U,U,U,U,U,U,U,U,U,U,U,U,U,U,U,U,U,U,U,U,U,U,U,U,U,U,U,U,U,U,U,U,U,U,U,U,U,U,U,U,U,U,U,U,U,U,U,U,U,U,U,U,U,U,U,U,U,U,U,U,U,U,U,U,U,U,U,U,U,U,U,U,U,U,U,U,U,U,U,U,U,U,U,U,U,U,U,U,U,U,U,U,U,U,U,U,U,U,U,U,U,U,U,U,U,U,U,U,U,U,U,U,U,U,U,U,U,U,U,U,U,U,U,U,.d (.list (List.map encInterpreterReached y16.1)),.d (.int .i64 (y16.1.length : Int)),.d (.int .i64 (i1 : Int))] ++ us 40)) (fun v14=>⟨[[.d (.int .i64 y5.1.Motion),.d (.int .i64 y5.1.Distance),.d (.int .i64 y5.1.Work),.d (.int .i64 y5.1.Length),.d (.int .i64 y5.1.Return),.d (.int .i64 y5.1.Feed),.d (.int .i64 y5.1.Tool),.d (.int .i64 y5.1.Offset)],[.d (.int .i64 y16.2.1.Code),.d (.int .i64 y16.2.1.R),.d (.int .i64 y16.2.1.Z),.d (.int .i64 y16.2.1.Q),.d (.int .i64 y16.2.1.Rate),.d (.int .i64 y16.2.1.Initial),.d (.bool y16.2.1.High)],[.d (.bool a2.Skip),.d (.list (List.map encApiWord a2.Words)),.d (.str a2.Comment)],[.d (.int .i64 a3.Work.e0.X),.d (.int .i64 a3.Work.e0.Y),.d (.int .i64 a3.Work.e0.Z),.d (.int .i64 a3.Work.e1.X),.d (.int .i64 a3.Work.e1.Y),.d (.int .i64 a3.Work.e1.Z),.d (.int .i64 a3.Work.e2.X),.d (.int .i64 a3.Work.e2.Y),.d (.int .i64 a3.Work.e2.Z),.d (.int .i64 a3.Work.e3.X),.d (.int .i64 a3.Work.e3.Y),.d (.int .i64 a3.Work.e3.Z),.d (.int .i64 a3.Work.e4.X),.d (.int .i64 a3.Work.e4.Y),.d (.int .i64 a3.Work.e4.Z),.d (.int .i64 a3.Work.e5.X),.d (.int .i64 a3.Work.e5.Y),.d (.int .i64 a3.Work.e5.Z),.d (.list (List.map encTableLength a3.Lengths))],[.d (.int .i64 v12.2.X),.d (.int .i64 v12.2.Y),.d (.int .i64 v12.2.Z)],[.d (.int .i64 0),.d (.int .i64 0),.d (.int .i64 0),.d (.int .i64 0),.d (.int .i64 0),.d (.int .i64 0),.d (.int .i64 0),.d (.int .i64 0)],[.d (.int .i64 0),.d (.int .i64 0),.d (.int .i64 0),.d (.int .i64 0),.d (.int .i64 0),.d (.int .i64 0),.d (.bool false)],[.d (.int .i64 y15.1.X),.d (.int .i64 y15.1.Y),.d (.int .i64 y15.1.Z)],[.d (.int .i64 e1.at_.X),.d (.int .i64 e1.at_.Y),.d (.int .i64 e1.at_.Z),.d (.int .i64 e1.rate)],[.d (.int .i64 y17.1.X),.d (.int .i64 y17.1.Y),.d (.int .i64 y17.1.Z)]],[(54,v14.length)]⟩) (fun _=>rfl) ?_ ?_) h
 refine .cond rfl (fun h4=>?_) (fun h4=>?_)
 refine .guard fun q3=>.region fun e h=>?_
 simp only [seval,EMB,ag_24,sz_24,fld_93_1,sz_2,ag_2,fld_34_6,zero_54,pl_54,und_42,sz_54,(oL 9),app_42,al_ApiMotion,q3]
 cases h
 simp only [seval,FMB,Tryd.results18,ag_34,sz_34,ag_64,sz_64]
 refine .skip fun e h=>?_
 cases h
 simp only [seval,FMB,Tryd.results18,ag_34,sz_34,ag_64,sz_64]
 intro v14
 refine Mir.toK (.region fun e h=>?_)
 simp only [seval,EMB,ag_24,sz_24]
 refine mU e (.region fun e h=>?_) h
 simp only [seval,EMB]
 cases h
 simp only [seval,FMB,Tryd.results18,ag_34,sz_34,ag_64,sz_64,q2]
 intro v12 q4
 refine .sR fun e h=>?_
 simp only [seval,EMB,q4]
 refine mU e (.seqK (.condF rfl (.exit fun e h=>?_))) h
 cases h
 simp only [seval,FMB,Tryd.results18,ag_34,sz_34,ag_64,sz_64]
 intro v15
 refine Mir.toK (.seqK (.regionD [(6,11)] (by kernel_rfl) fun e h=>?_))
 simp only [seval,EMB,SB,ag_34,sz_34,ag_64,sz_64]
 refine mU e (.ret fun e h=>?_) h
 cases h
 simp only [seval,FMB,Tryd.results18,ag_34,sz_34,ag_64,sz_64,fx_r,fx_n,xr_o,xr_n,rowT]
def inp_End (a0 : ApiPos) (a1 : (List ApiMotion)) : Option ApiPos := if ((a1.length : Int) == 0) = true then some a0 else bindO (gt a1 (IntKind.i64.wrap ((a1.length : Int) - 1))) fun (e1 : ApiMotion)=>some e1.To
theorem inp_End_spec {a0 : ApiPos} {a1 : (List ApiMotion)} {y : ApiPos} (h : inp_End a0 a1 = some y) : Spec gP 19 [.agg [.d (.int .i64 a0.X),.d (.int .i64 a0.Y),.d (.int .i64 a0.Z)],.d (.list (List.map encApiMotion a1))] (.agg [.d (.int .i64 y.X),.d (.int .i64 y.Y),.d (.int .i64 y.Z)]) := by
 refine spec_mir Tryd.func19 rfl (by kernel_rfl) (by kernel_rfl) (fun y : ApiPos=>.agg [.d (.int .i64 y.X),.d (.int .i64 y.Y),.d (.int .i64 y.Z)]) ?_ h
 unfold inp_End
 simp only [List.replicate,List.length,nS,nA,Tryd.ntmps19,SV]
 refine .sR fun e h=>?_
 simp only [seval,EMB,zero_24]
 refine mU e (.seqK (.sR fun e h=>?_)) h
 simp only [seval,EMB,und_42]
 refine mU e (.cond rfl (fun hb2=>?_) (fun hb2=>?_)) h
 refine .sR fun e h=>?_
 simp only [seval,EMB,ag_24,sz_24]
 refine mU e (.ret fun e h=>?_) h
 cases h
 simp only [seval,FMB,Tryd.results19,ag_24,sz_24]
 refine .skip (Mir.toK (.seqK (.bind fun e1 q3=>?_)))
 replace q3 := gt_ok q3
 refine .region fun e h=>?_
 simp only [seval,EMB,und_42,sz_54,q3,fld_54_1,sz_24,ag_24]
 refine mU e (.ret fun e h=>?_) h
 cases h
 simp only [seval,FMB,Tryd.results19,ag_24,sz_24]
def bk_Codes (a0 : ApiBlock) (a1 : Int) : Option (List Int) := bindO (guardO (okIdx a0.Words) ( rangeX (fun (i1 : Nat) (e1 : ApiWord) (v1 : (List Int))=>bindO (if (e1.Letter == a1) = true then guardO (okLen (v1.length + 1)) ( some (v1 ++ [e1.Value])) else some v1) fun (v2 : (List Int))=>some (.go v2)) (fun (v1 : (List Int))=>some v1) a0.Words 0 [])) fun (v3 : (List Int))=>some v3
theorem bk_Codes_spec {a0 : ApiBlock} {a1 : Int} {y : (List Int)} (h : bk_Codes a0 a1 = some y) : Spec gP 21 [.agg [.d (.bool a0.Skip),.d (.list (List.map encApiWord a0.Words)),.d (.str a0.Comment)],.d (.int .u8 a1)] (.d (.list (List.map (eInt .i64) y))) := by
 refine spec_mir Tryd.func21 rfl (by kernel_rfl) (by kernel_rfl) (fun y : (List Int)=>.d (.list (List.map (eInt .i64) y))) ?_ h
 unfold bk_Codes
 simp only [List.replicate,List.length,nS,nA,Tryd.ntmps21,SV]
 refine .sR fun e h=>?_
 simp only [seval,EMB,eInt]
 refine mU e (.sR fun e h=>?_) h
 simp only [seval,EMB,eInt]
 refine mU e (.seqK (.sR fun e h=>?_)) h
 simp only [seval,EMB,fld_41_1,sz_39,ag_39,und_39,eInt]
 refine mU e (.gh [.slot 5 2] rfl (Mir.joinO (fun v3 : (List Int)=>([U,U,U,U,U,.own 0 (List.map (eInt .i64) v3)] ++ us 20)) (fun v3=>⟨[[.d (.bool a0.Skip),.d (.list (List.map encApiWord a0.Words)),.d (.str a0.Comment)]],[(2,v3.length)]⟩) (fun _=>rfl) ?_ ?_)) h
 refine .block (.guard fun qg91=>Mir.range (fun (i1 : Nat) (v1 : (List Int))=>([U,.d (.int .u8 a1),U,U,U,.own 0 (List.map (eInt .i64) v1),U,U,U,.d (.list (List.map encApiWord a0.Words)),.d (.int .i64 (a0.Words.length : Int)),.d (.int .i64 (i1 : Int))] ++ us 14)) (fun i1 v1=>⟨[[.d (.bool a0.Skip),.d (.list (List.map encApiWord a0.Words)),.d (.str a0.Comment)]],[(2,v1.length)]⟩) qg91 (fun _ _=>rfl) (by simp only [seval,FMB,eInt,zNI]) (by simp only [seval,FMB,eInt,zNI]) ?_ ?_)
 intro i1 e1 v1 qr89
 refine .sR fun e h=>?_
 simp only [seval,EMB,qr89,eInt]
 refine mU e (.seqK (.condT rfl (.skip (Mir.toK (.seqK (Mir.joinO (fun v2 : (List Int)=>([U,.d (.int .u8 a1),U,U,U,.own 0 (List.map (eInt .i64) v2),U,U,U,.d (.list (List.map encApiWord a0.Words)),.d (.int .i64 (a0.Words.length : Int)),.d (.int .i64 (i1 : Int))] ++ us 14)) (fun v2=>⟨[[.d (.bool a0.Skip),.d (.list (List.map encApiWord a0.Words)),.d (.str a0.Comment)]],[(2,v2.length)]⟩) (fun _=>rfl) ?_ ?_)))))) h
 refine .block (.sR fun e h=>?_)
 simp only [seval,EMB,und_39,sz_77,qr89,Int.toNat_natCast,ag_77,zero_77,eInt]
 refine mU e (.sR fun e h=>?_) h
 simp only [seval,EMB,fld_77_0,sz_5,ag_5,eInt]
 refine mU e (.cond rfl (fun hb94=>?_) (fun hb94=>?_)) h
 refine .guard fun q95=>.region fun e h=>?_
 simp only [seval,EMB,fld_77_1,sz_2,ag_2,und_69,zero_2,(oL 1),app_69,al_eInt,q95,eInt]
 cases h
 simp only [seval,FMB,eInt,Tryd.results21]
 refine .skip fun e h=>?_
 cases h
 simp only [seval,FMB,eInt,Tryd.results21]
 intro v2
 refine Mir.toK (.region fun e h=>?_)
 simp only [seval,EMB,eInt]
 cases h
 simp only [seval,FMB,eInt,Tryd.results21,qr89]
 intro v1 qd90
 refine .sR fun e h=>?_
 simp only [seval,EMB,qd90,eInt]
 refine mU e (.seqK (.condF rfl (.exit fun e h=>?_))) h
 cases h
 simp only [seval,FMB,eInt,Tryd.results21]
 intro v3
 refine Mir.toK (.sR fun e h=>?_)
 simp only [seval,EMB,eInt]
 refine mU e (.ret fun e h=>?_) h
 cases h
 simp only [seval,FMB,eInt,Tryd.results21]
def inp_Blocks (a0 : (List ApiBlock)) (a1 : TableTable) (a2 : ApiPos) : Option ((List ApiMotion) × InterpreterAlarm) := bindO (inp_checked (TableTable.mk a1.Work a1.Lengths) a2) fun (y1 : Int)=>if (y1 != 0) = true then some ([],InterpreterAlarm.mk (-1) y1) else bindO (md_New ) fun (y2 : ModalState)=>bindX (guardO (okIdx a0) ( rangeX (fun (i1 : Nat) (e1 : ApiBlock) (v1 : (List ApiMotion) × ApiPos × ModalState × CycleCycle)=>bindX (bindO (inp_Step v1.2.2.1 v1.2.2.2 e1 (TableTable.mk a1.Work a1.Lengths) v1.2.1) fun (y3 : (List ApiMotion) × ModalState × CycleCycle × Int)=>bindO (if (y3.2.2.2 == 0) = true then some (decide ((IntKind.i64.wrap ((v1.1.length : Int) + (y3.1.length : Int))) > 20000)) else some false) fun (v2 : Bool)=>bindO (if v2 = true then some 3 else some y3.2.2.2) fun (v3 : Int)=>if (v3 != 0) = true then some (.ret (.ret (.ret (v1.1,InterpreterAlarm.mk (i1 : Int) v3)))) else bindO (guardO (okIdx y3.1) ( rangeX (fun (i2 : Nat) (e2 : ApiMotion) (v4 : (List ApiMotion))=>bindO (gt v4 (i2 : Int)) fun (e3 : ApiMotion)=>some (.go (v4.set (Int.toNat (i2 : Int)) (ApiMotion.mk e3.From e3.To e3.Rate e3.Tool (i1 : Int))))) (fun (v4 : (List ApiMotion))=>some v4) y3.1 0 y3.1)) fun (v5 : (List ApiMotion))=>guardO (okLen (v1.1.length + v5.length)) ( bindO (inp_End v1.2.1 v5) fun (y4 : ApiPos)=>bindO (bk_Codes e1 77) fun (y5 : (List Int))=>bindO (slices_Contains_int64_int64 y5 30000) fun (y6 : Bool)=>if y6 = true then some (.ret (.ret (.ret (v1.1 ++ v5,InterpreterAlarm.mk (-1) 0)))) else some (.go (v1.1 ++ v5,y4,y3.2.1,y3.2.2.1)))) fun (v6 : (List ApiMotion) × ApiPos × ModalState × CycleCycle)=>some (.go (v6.1,v6.2.1,v6.2.2.1,v6.2.2.2))) (fun (v1 : (List ApiMotion) × ApiPos × ModalState × CycleCycle)=>some (.go (v1.1,v1.2.1,v1.2.2.1,v1.2.2.2))) a0 0 ([],a2,y2,CycleCycle.mk 0 0 0 0 0 0 false))) fun (v7 : (List ApiMotion) × ApiPos × ModalState × CycleCycle)=>some (v7.1,InterpreterAlarm.mk (a0.length : Int) 13)
theorem inp_Blocks_spec {a0 : (List ApiBlock)} {a1 : TableTable} {a2 : ApiPos} {y : (List ApiMotion) × InterpreterAlarm} (h : inp_Blocks a0 a1 a2 = some y) : Spec gP 8 [.d (.list (List.map encApiBlock a0)),.agg [.d (.int .i64 a1.Work.e0.X),.d (.int .i64 a1.Work.e0.Y),.d (.int .i64 a1.Work.e0.Z),.d (.int .i64 a1.Work.e1.X),.d (.int .i64 a1.Work.e1.Y),.d (.int .i64 a1.Work.e1.Z),.d (.int .i64 a1.Work.e2.X),.d (.int .i64 a1.Work.e2.Y),.d (.int .i64 a1.Work.e2.Z),.d (.int .i64 a1.Work.e3.X),.d (.int .i64 a1.Work.e3.Y),.d (.int .i64 a1.Work.e3.Z),.d (.int .i64 a1.Work.e4.X),.d (.int .i64 a1.Work.e4.Y),.d (.int .i64 a1.Work.e4.Z),.d (.int .i64 a1.Work.e5.X),.d (.int .i64 a1.Work.e5.Y),.d (.int .i64 a1.Work.e5.Z),.d (.list (List.map encTableLength a1.Lengths))],.agg [.d (.int .i64 a2.X),.d (.int .i64 a2.Y),.d (.int .i64 a2.Z)]] (.tuple [.d (.list (List.map encApiMotion y.1)),.agg [.d (.int .i64 y.2.Block),.d (.int .i64 y.2.Code)]]) := by
 refine spec_mir Tryd.func8 rfl (by kernel_rfl) (by kernel_rfl) (fun y : (List ApiMotion) × InterpreterAlarm=>.tuple [.d (.list (List.map encApiMotion y.1)),.agg [.d (.int .i64 y.2.Block),.d (.int .i64 y.2.Code)]]) ?_ h
 unfold inp_Blocks
 simp only [List.replicate,List.length,nS,nA,Tryd.ntmps8,SV]
 refine .sR fun e h=>?_
 simp only [seval,EMB,zero_44,rmap_set,spD]
 refine mU e (.seqK (.seqK (.bind fun y1 hy1=>.region fun e h=>?_))) h
 simp only [seval,EMB,ag_49,sz_49,ag_24,sz_24,rmap_set,spD]
 refine SpecS.by (inp_checked_spec hy1) (by simp only [seval,FMB,rmap_set,spD]) ?_
 simp only [seval,EMB,rmap_set,spD]
 refine mU e (.sR fun e h=>?_) h
 simp only [seval,EMB,rmap_set,spD]
 refine mU e (.cond rfl (fun hb3=>?_) (fun hb3=>?_)) h
 refine .sR fun e h=>?_
 simp only [seval,EMB,zero_44,pl_44,sz_44]
 refine mU e (.ret fun e h=>?_) h
 cases h
 simp only [seval,FMB,Tryd.results8,ag_44,sz_44]
 refine .skip (Mir.toK (.seqK (.bind fun y2 hy4=>.region fun e h=>?_)))
 simp only [seval,EMB,rmap_set,spD]
 refine SpecS.by (md_New_spec hy4) (rfl) ?_
 simp only [seval,EMB,zero_64,pl_64,zero_34,sz_34,sz_64,rmap_set,spD]
 refine mU e (.sR fun e h=>?_) h
 simp only [seval,EMB,rmap_set,spD]
 refine mU e (.seqK (.sR fun e h=>?_)) h
 simp only [seval,EMB,und_22,rmap_set,spD]
 refine mU e (.gh [.slot 11 54] rfl (Mir.join (fun v7 : (List ApiMotion) × ApiPos × ModalState × CycleCycle=>([.d (.list (List.map encApiBlock a0)),U,U,U,U,U,U,.ptr 2 0,U,U,U,.own 0 (List.map encApiMotion v7.1)] ++ us 79)) (fun v7=>⟨[[.d (.int .i64 a1.Work.e0.X),.d (.int .i64 a1.Work.e0.Y),.d (.int .i64 a1.Work.e0.Z),.d (.int .i64 a1.Work.e1.X),.d (.int .i64 a1.Work.e1.Y),.d (.int .i64 a1.Work.e1.Z),.d (.int .i64 a1.Work.e2.X),.d (.int .i64 a1.Work.e2.Y),.d (.int .i64 a1.Work.e2.Z),.d (.int .i64 a1.Work.e3.X),.d (.int .i64 a1.Work.e3.Y),.d (.int .i64 a1.Work.e3.Z),.d (.int .i64 a1.Work.e4.X),.d (.int .i64 a1.Work.e4.Y),.d (.int .i64 a1.Work.e4.Z),.d (.int .i64 a1.Work.e5.X),.d (.int .i64 a1.Work.e5.Y),.d (.int .i64 a1.Work.e5.Z),.d (.list (List.map encTableLength a1.Lengths))],[.d (.int .i64 v7.2.1.X),.d (.int .i64 v7.2.1.Y),.d (.int .i64 v7.2.1.Z)],[.d (.int .i64 0),.d (.int .i64 0)],[.d (.int .i64 v7.2.2.1.Motion),.d (.int .i64 v7.2.2.1.Distance),.d (.int .i64 v7.2.2.1.Work),.d (.int .i64 v7.2.2.1.Length),.d (.int .i64 v7.2.2.1.Return),.d (.int .i64 v7.2.2.1.Feed),.d (.int .i64 v7.2.2.1.Tool),.d (.int .i64 v7.2.2.1.Offset)],[.d (.int .i64 v7.2.2.2.Code),.d (.int .i64 v7.2.2.2.R),.d (.int .i64 v7.2.2.2.Z),.d (.int .i64 v7.2.2.2.Q),.d (.int .i64 v7.2.2.2.Rate),.d (.int .i64 v7.2.2.2.Initial),.d (.bool v7.2.2.2.High)]],[(54,v7.1.length)]⟩) (fun _=>rfl) ?_ ?_)) h
 refine .block (.guard fun q1=>Mir.range (fun (i1 : Nat) (v1 : (List ApiMotion) × ApiPos × ModalState × CycleCycle)=>([.d (.list (List.map encApiBlock a0)),U,U,U,.ptr 0 0,.ptr 1 0,U,.ptr 2 0,U,.ptr 3 0,.ptr 4 0,.own 0 (List.map encApiMotion v1.1),U,U,U,U,U,U,U,U,U,U,U,U,U,U,U,U,.d (.list (List.map encApiBlock a0)),.d (.int .i64 (a0.length : Int)),.d (.int .i64 (i1 : Int))] ++ us 60)) (fun i1 v1=>⟨[[.d (.int .i64 a1.Work.e0.X),.d (.int .i64 a1.Work.e0.Y),.d (.int .i64 a1.Work.e0.Z),.d (.int .i64 a1.Work.e1.X),.d (.int .i64 a1.Work.e1.Y),.d (.int .i64 a1.Work.e1.Z),.d (.int .i64 a1.Work.e2.X),.d (.int .i64 a1.Work.e2.Y),.d (.int .i64 a1.Work.e2.Z),.d (.int .i64 a1.Work.e3.X),.d (.int .i64 a1.Work.e3.Y),.d (.int .i64 a1.Work.e3.Z),.d (.int .i64 a1.Work.e4.X),.d (.int .i64 a1.Work.e4.Y),.d (.int .i64 a1.Work.e4.Z),.d (.int .i64 a1.Work.e5.X),.d (.int .i64 a1.Work.e5.Y),.d (.int .i64 a1.Work.e5.Z),.d (.list (List.map encTableLength a1.Lengths))],[.d (.int .i64 v1.2.1.X),.d (.int .i64 v1.2.1.Y),.d (.int .i64 v1.2.1.Z)],[.d (.int .i64 0),.d (.int .i64 0)],[.d (.int .i64 v1.2.2.1.Motion),.d (.int .i64 v1.2.2.1.Distance),.d (.int .i64 v1.2.2.1.Work),.d (.int .i64 v1.2.2.1.Length),.d (.int .i64 v1.2.2.1.Return),.d (.int .i64 v1.2.2.1.Feed),.d (.int .i64 v1.2.2.1.Tool),.d (.int .i64 v1.2.2.1.Offset)],[.d (.int .i64 v1.2.2.2.Code),.d (.int .i64 v1.2.2.2.R),.d (.int .i64 v1.2.2.2.Z),.d (.int .i64 v1.2.2.2.Q),.d (.int .i64 v1.2.2.2.Rate),.d (.int .i64 v1.2.2.2.Initial),.d (.bool v1.2.2.2.High)]],[(54,v1.1.length)]⟩) q1 (fun _ _=>rfl) (by simp only [seval,FMB,rmap_set,spD,zNI]) (by simp only [seval,FMB,rmap_set,spD,zNI]) ?_ ?_)
 intro i1 e1 v1 q2
 refine .sR fun e h=>?_
 simp only [seval,EMB,q2,rmap_set,spD]
 refine mU e (.seqK (.condT rfl (.skip (Mir.toK (.seqK (Mir.join (fun v6 : (List ApiMotion) × ApiPos × ModalState × CycleCycle=>([.d (.list (List.map encApiBlock a0)),U,U,U,.ptr 0 0,.ptr 1 0,U,.ptr 2 0,U,.ptr 3 0,.ptr 4 0,.own 0 (List.map encApiMotion v6.1),U,U,U,U,U,U,U,U,U,U,U,U,U,U,U,U,.d (.list (List.map encApiBlock a0)),.d (.int .i64 (a0.length : Int)),.d (.int .i64 (i1 : Int))] ++ us 60)) (fun v6=>⟨[[.d (.int .i64 a1.Work.e0.X),.d (.int .i64 a1.Work.e0.Y),.d (.int .i64 a1.Work.e0.Z),.d (.int .i64 a1.Work.e1.X),.d (.int .i64 a1.Work.e1.Y),.d (.int .i64 a1.Work.e1.Z),.d (.int .i64 a1.Work.e2.X),.d (.int .i64 a1.Work.e2.Y),.d (.int .i64 a1.Work.e2.Z),.d (.int .i64 a1.Work.e3.X),.d (.int .i64 a1.Work.e3.Y),.d (.int .i64 a1.Work.e3.Z),.d (.int .i64 a1.Work.e4.X),.d (.int .i64 a1.Work.e4.Y),.d (.int .i64 a1.Work.e4.Z),.d (.int .i64 a1.Work.e5.X),.d (.int .i64 a1.Work.e5.Y),.d (.int .i64 a1.Work.e5.Z),.d (.list (List.map encTableLength a1.Lengths))],[.d (.int .i64 v6.2.1.X),.d (.int .i64 v6.2.1.Y),.d (.int .i64 v6.2.1.Z)],[.d (.int .i64 0),.d (.int .i64 0)],[.d (.int .i64 v6.2.2.1.Motion),.d (.int .i64 v6.2.2.1.Distance),.d (.int .i64 v6.2.2.1.Work),.d (.int .i64 v6.2.2.1.Length),.d (.int .i64 v6.2.2.1.Return),.d (.int .i64 v6.2.2.1.Feed),.d (.int .i64 v6.2.2.1.Tool),.d (.int .i64 v6.2.2.1.Offset)],[.d (.int .i64 v6.2.2.2.Code),.d (.int .i64 v6.2.2.2.R),.d (.int .i64 v6.2.2.2.Z),.d (.int .i64 v6.2.2.2.Q),.d (.int .i64 v6.2.2.2.Rate),.d (.int .i64 v6.2.2.2.Initial),.d (.bool v6.2.2.2.High)]],[(54,v6.1.length)]⟩) (fun _=>rfl) ?_ ?_)))))) h
 refine .block (.sR fun e h=>?_)
 simp only [seval,EMB,und_22,sz_41,q2,Int.toNat_natCast,ag_41,zero_41,rmap_set,spD]
 refine mU e (.seqK (.bind fun y3 h1=>.region fun e h=>?_)) h
 simp only [seval,EMB,ag_34,sz_34,ag_64,sz_64,ag_41,sz_41,ag_49,sz_49,ag_24,sz_24,rmap_set,spD]
 refine SpecX.toS (inp_Step_specX h1) (by simp only [seval,FMB,rmap_set,spD]) ?_
 simp only [seval,EMB,zero_34,zero_64,sz_34,sz_64,rmap_set,spD]
 refine mU e (.seqK (.seqK (Mir.joinO (fun v2 : Bool=>([.d (.list (List.map encApiBlock a0)),U,U,U,.ptr 0 0,.ptr 1 0,U,.ptr 2 0,U,.ptr 3 0,.ptr 4 0,.own 0 (List.map encApiMotion v1.1),.d (.int .i64 (i1 : Int)),.ptr 5 0,.gr 6 0,.ptr 7 0,.ptr 8 0,.d (.int .i64 y3.2.2.2),U,U,U,U,U,U,U,U,U,U,.d (.list (List.map encApiBlock a0)),.d (.int .i64 (a0.length : Int)),.d (.int .i64 (i1 : Int)),U,U,U,U,U,U,U,U,U,U,U,U,U,U,U,U,U,U,U,U,U,U,U,U,.d (.bool v2)] ++ us 35)) (fun v2=>⟨[[.d (.int .i64 a1.Work.e0.X),.d (.int .i64 a1.Work.e0.Y),.d (.int .i64 a1.Work.e0.Z),.d (.int .i64 a1.Work.e1.X),.d (.int .i64 a1.Work.e1.Y),.d (.int .i64 a1.Work.e1.Z),.d (.int .i64 a1.Work.e2.X),.d (.int .i64 a1.Work.e2.Y),.d (.int .i64 a1.Work.e2.Z),.d (.int .i64 a1.Work.e3.X),.d (.int .i64 a1.Work.e3.Y),.d (.int .i64 a1.Work.e3.Z),.d (.int .i64 a1.Work.e4.X),.d (.int .i64 a1.Work.e4.Y),.d (.int .i64 a1.Work.e4.Z),.d (.int .i64 a1.Work.e5.X),.d (.int .i64 a1.Work.e5.Y),.d (.int .i64 a1.Work.e5.Z),.d (.list (List.map encTableLength a1.Lengths))],[.d (.int .i64 v1.2.1.X),.d (.int .i64 v1.2.1.Y),.d (.int .i64 v1.2.1.Z)],[.d (.int .i64 0),.d (.int .i64 0)],[.d (.int .i64 v1.2.2.1.Motion),.d (.int .i64 v1.2.2.1.Distance),.d (.int .i64 v1.2.2.1.Work),.d (.int .i64 v1.2.2.1.Length),.d (.int .i64 v1.2.2.1.Return),.d (.int .i64 v1.2.2.1.Feed),.d (.int .i64 v1.2.2.1.Tool),.d (.int .i64 v1.2.2.1.Offset)],[.d (.int .i64 v1.2.2.2.Code),.d (.int .i64 v1.2.2.2.R),.d (.int .i64 v1.2.2.2.Z),.d (.int .i64 v1.2.2.2.Q),.d (.int .i64 v1.2.2.2.Rate),.d (.int .i64 v1.2.2.2.Initial),.d (.bool v1.2.2.2.High)],[.d (.bool e1.Skip),.d (.list (List.map encApiWord e1.Words)),.d (.str e1.Comment)],[.rowc 54 0 (List.map encApiMotion y3.1)],[.d (.int .i64 y3.2.1.Motion),.d (.int .i64 y3.2.1.Distance),.d (.int .i64 y3.2.1.Work),.d (.int .i64 y3.2.1.Length),.d (.int .i64 y3.2.1.Return),.d (.int .i64 y3.2.1.Feed),.d (.int .i64 y3.2.1.Tool),.d (.int .i64 y3.2.1.Offset)],[.d (.int .i64 y3.2.2.1.Code),.d (.int .i64 y3.2.2.1.R),.d (.int .i64 y3.2.2.1.Z),.d (.int .i64 y3.2.2.1.Q),.d (.int .i64 y3.2.2.1.Rate),.d (.int .i64 y3.2.2.1.Initial),.d (.bool y3.2.2.1.High)]],[(54,v1.1.length)]⟩) (fun _=>rfl) ?_ ?_))) h
 refine .ite (fun h2=>?_) (fun h2=>?_)
 refine .regionW fun e h=>regW.alt 6 rfl ?_
 simp only [seval,EMB,w_none,w_eq,und_42,rmap_set,spD,h2]
 refine alt_lenR rfl rfl und_42 (regW.of ?_)
 simp only [seval,EMB,w_none,w_eq,und_42,rmap_set,spD,h2]
 cases h
 simp only [seval,FMB,rmap_set,spD,h2]
 refine .region fun e h=>?_
 simp only [seval,EMB,rmap_set,spD,h2]
 cases h
 simp only [seval,FMB,rmap_set,spD,h2]
 intro v2
 refine Mir.toK (Mir.joinO (fun v3 : Int=>([.d (.list (List.map encApiBlock a0)),U,U,U,.ptr 0 0,.ptr 1 0,U,.ptr 2 0,U,.ptr 3 0,.ptr 4 0,.own 0 (List.map encApiMotion v1.1),.d (.int .i64 (i1 : Int)),.ptr 5 0,.gr 6 0,.ptr 7 0,.ptr 8 0,.d (.int .i64 v3),U,U,U,U,U,U,U,U,U,U,.d (.list (List.map encApiBlock a0)),.d (.int .i64 (a0.length : Int)),.d (.int .i64 (i1 : Int))] ++ us 60)) (fun v3=>⟨[[.d (.int .i64 a1.Work.e0.X),.d (.int .i64 a1.Work.e0.Y),.d (.int .i64 a1.Work.e0.Z),.d (.int .i64 a1.Work.e1.X),.d (.int .i64 a1.Work.e1.Y),.d (.int .i64 a1.Work.e1.Z),.d (.int .i64 a1.Work.e2.X),.d (.int .i64 a1.Work.e2.Y),.d (.int .i64 a1.Work.e2.Z),.d (.int .i64 a1.Work.e3.X),.d (.int .i64 a1.Work.e3.Y),.d (.int .i64 a1.Work.e3.Z),.d (.int .i64 a1.Work.e4.X),.d (.int .i64 a1.Work.e4.Y),.d (.int .i64 a1.Work.e4.Z),.d (.int .i64 a1.Work.e5.X),.d (.int .i64 a1.Work.e5.Y),.d (.int .i64 a1.Work.e5.Z),.d (.list (List.map encTableLength a1.Lengths))],[.d (.int .i64 v1.2.1.X),.d (.int .i64 v1.2.1.Y),.d (.int .i64 v1.2.1.Z)],[.d (.int .i64 0),.d (.int .i64 0)],[.d (.int .i64 v1.2.2.1.Motion),.d (.int .i64 v1.2.2.1.Distance),.d (.int .i64 v1.2.2.1.Work),.d (.int .i64 v1.2.2.1.Length),.d (.int .i64 v1.2.2.1.Return),.d (.int .i64 v1.2.2.1.Feed),.d (.int .i64 v1.2.2.1.Tool),.d (.int .i64 v1.2.2.1.Offset)],[.d (.int .i64 v1.2.2.2.Code),.d (.int .i64 v1.2.2.2.R),.d (.int .i64 v1.2.2.2.Z),.d (.int .i64 v1.2.2.2.Q),.d (.int .i64 v1.2.2.2.Rate),.d (.int .i64 v1.2.2.2.Initial),.d (.bool v1.2.2.2.High)],[.d (.bool e1.Skip),.d (.list (List.map encApiWord e1.Words)),.d (.str e1.Comment)],[.rowc 54 0 (List.map encApiMotion y3.1)],[.d (.int .i64 y3.2.1.Motion),.d (.int .i64 y3.2.1.Distance),.d (.int .i64 y3.2.1.Work),.d (.int .i64 y3.2.1.Length),.d (.int .i64 y3.2.1.Return),.d (.int .i64 y3.2.1.Feed),.d (.int .i64 y3.2.1.Tool),.d (.int .i64 y3.2.1.Offset)],[.d (.int .i64 y3.2.2.1.Code),.d (.int .i64 y3.2.2.1.R),.d (.int .i64 y3.2.2.1.Z),.d (.int .i64 y3.2.2.1.Q),.d (.int .i64 y3.2.2.1.Rate),.d (.int .i64 y3.2.2.1.Initial),.d (.bool y3.2.2.1.High)]],[(54,v1.1.length)]⟩) (fun _=>rfl) ?_ ?_)
 refine .cond rfl (fun h3=>?_) (fun h3=>?_)
 refine .region fun e h=>?_
 simp only [seval,EMB,rmap_set,spD]
 cases h
 simp only [seval,FMB,rmap_set,spD,Tryd.results8,ag_44,sz_44]
 refine .skip fun e h=>?_
 cases h
 simp only [seval,FMB,rmap_set,spD,Tryd.results8,ag_44,sz_44]
 intro v3
 refine Mir.toK (.seqK (.sR fun e h=>?_))
 simp only [seval,EMB,rmap_set,spD]
 refine mU e (.cond rfl (fun h4=>?_) (fun h4=>?_)) h
 refine .sR fun e h=>?_
 simp only [seval,EMB,zero_44,pl_44,sz_44,rmap_set,spD]
 refine mU e (.ret fun e h=>?_) h
 cases h
 simp only [seval,FMB,rmap_set,spD,Tryd.results8,ag_44,sz_44]
 refine .skip (Mir.toK (.seqK (.seqK (.regionW fun e h=>regW.alt 1 rfl ?_))))
 simp only [seval,EMB,w_none,w_eq,rmap_set,spD]
 refine alt_lenR rfl rfl und_42 (regW.of ?_)
 simp only [seval,EMB,w_none,w_eq,und_42,rmap_set,spD]
 refine mU e (Mir.joinO (fun v5 : (List ApiMotion)=>([.d (.list (List.map encApiBlock a0)),U,U,U,.ptr 0 0,.ptr 1 0,U,.ptr 2 0,U,.ptr 3 0,.ptr 4 0,.own 0 (List.map encApiMotion v1.1),U,.ptr 5 0,.gr 6 0,.ptr 7 0,.ptr 8 0,U,U,U,U,U,U,U,U,U,U,U,.d (.list (List.map encApiBlock a0)),.d (.int .i64 (a0.length : Int)),.d (.int .i64 (i1 : Int))] ++ us 60)) (fun v5=>⟨[[.d (.int .i64 a1.Work.e0.X),.d (.int .i64 a1.Work.e0.Y),.d (.int .i64 a1.Work.e0.Z),.d (.int .i64 a1.Work.e1.X),.d (.int .i64 a1.Work.e1.Y),.d (.int .i64 a1.Work.e1.Z),.d (.int .i64 a1.Work.e2.X),.d (.int .i64 a1.Work.e2.Y),.d (.int .i64 a1.Work.e2.Z),.d (.int .i64 a1.Work.e3.X),.d (.int .i64 a1.Work.e3.Y),.d (.int .i64 a1.Work.e3.Z),.d (.int .i64 a1.Work.e4.X),.d (.int .i64 a1.Work.e4.Y),.d (.int .i64 a1.Work.e4.Z),.d (.int .i64 a1.Work.e5.X),.d (.int .i64 a1.Work.e5.Y),.d (.int .i64 a1.Work.e5.Z),.d (.list (List.map encTableLength a1.Lengths))],[.d (.int .i64 v1.2.1.X),.d (.int .i64 v1.2.1.Y),.d (.int .i64 v1.2.1.Z)],[.d (.int .i64 0),.d (.int .i64 0)],[.d (.int .i64 v1.2.2.1.Motion),.d (.int .i64 v1.2.2.1.Distance),.d (.int .i64 v1.2.2.1.Work),.d (.int .i64 v1.2.2.1.Length),.d (.int .i64 v1.2.2.1.Return),.d (.int .i64 v1.2.2.1.Feed),.d (.int .i64 v1.2.2.1.Tool),.d (.int .i64 v1.2.2.1.Offset)],[.d (.int .i64 v1.2.2.2.Code),.d (.int .i64 v1.2.2.2.R),.d (.int .i64 v1.2.2.2.Z),.d (.int .i64 v1.2.2.2.Q),.d (.int .i64 v1.2.2.2.Rate),.d (.int .i64 v1.2.2.2.Initial),.d (.bool v1.2.2.2.High)],[.d (.bool e1.Skip),.d (.list (List.map encApiWord e1.Words)),.d (.str e1.Comment)],[.rowc 54 0 (List.map encApiMotion v5)],[.d (.int .i64 y3.2.1.Motion),.d (.int .i64 y3.2.1.Distance),.d (.int .i64 y3.2.1.Work),.d (.int .i64 y3.2.1.Length),.d (.int .i64 y3.2.1.Return),.d (.int .i64 y3.2.1.Feed),.d (.int .i64 y3.2.1.Tool),.d (.int .i64 y3.2.1.Offset)],[.d (.int .i64 y3.2.2.1.Code),.d (.int .i64 y3.2.2.1.R),.d (.int .i64 y3.2.2.1.Z),.d (.int .i64 y3.2.2.1.Q),.d (.int .i64 y3.2.2.1.Rate),.d (.int .i64 y3.2.2.1.Initial),.d (.bool y3.2.2.1.High)]],[(54,v1.1.length)]⟩) (fun _=>rfl) ?_ ?_) h
 refine .block (.guard fun q3=>Mir.range (fun (i2 : Nat) (v4 : (List ApiMotion))=>([.d (.list (List.map encApiBlock a0)),U,U,U,.ptr 0 0,.ptr 1 0,U,.ptr 2 0,U,.ptr 3 0,.ptr 4 0,.own 0 (List.map encApiMotion v1.1),.d (.int .i64 (i1 : Int)),.ptr 5 0,.gr 6 0,.ptr 7 0,.ptr 8 0,U,U,U,U,U,U,U,U,U,U,U,.d (.list (List.map encApiBlock a0)),.d (.int .i64 (a0.length : Int)),.d (.int .i64 (i1 : Int)),U,U,U,U,U,U,U,U,U,U,U,U,U,U,U,U,U,U,U,U,U,U,U,U,U,U,U,U,U,U,U,U,.d (.int .i64 (y3.1.length : Int)),.d (.int .i64 (i2 : Int))] ++ us 26)) (fun i2 v4=>⟨[[.d (.int .i64 a1.Work.e0.X),.d (.int .i64 a1.Work.e0.Y),.d (.int .i64 a1.Work.e0.Z),.d (.int .i64 a1.Work.e1.X),.d (.int .i64 a1.Work.e1.Y),.d (.int .i64 a1.Work.e1.Z),.d (.int .i64 a1.Work.e2.X),.d (.int .i64 a1.Work.e2.Y),.d (.int .i64 a1.Work.e2.Z),.d (.int .i64 a1.Work.e3.X),.d (.int .i64 a1.Work.e3.Y),.d (.int .i64 a1.Work.e3.Z),.d (.int .i64 a1.Work.e4.X),.d (.int .i64 a1.Work.e4.Y),.d (.int .i64 a1.Work.e4.Z),.d (.int .i64 a1.Work.e5.X),.d (.int .i64 a1.Work.e5.Y),.d (.int .i64 a1.Work.e5.Z),.d (.list (List.map encTableLength a1.Lengths))],[.d (.int .i64 v1.2.1.X),.d (.int .i64 v1.2.1.Y),.d (.int .i64 v1.2.1.Z)],[.d (.int .i64 0),.d (.int .i64 0)],[.d (.int .i64 v1.2.2.1.Motion),.d (.int .i64 v1.2.2.1.Distance),.d (.int .i64 v1.2.2.1.Work),.d (.int .i64 v1.2.2.1.Length),.d (.int .i64 v1.2.2.1.Return),.d (.int .i64 v1.2.2.1.Feed),.d (.int .i64 v1.2.2.1.Tool),.d (.int .i64 v1.2.2.1.Offset)],[.d (.int .i64 v1.2.2.2.Code),.d (.int .i64 v1.2.2.2.R),.d (.int .i64 v1.2.2.2.Z),.d (.int .i64 v1.2.2.2.Q),.d (.int .i64 v1.2.2.2.Rate),.d (.int .i64 v1.2.2.2.Initial),.d (.bool v1.2.2.2.High)],[.d (.bool e1.Skip),.d (.list (List.map encApiWord e1.Words)),.d (.str e1.Comment)],[.rowc 54 0 (List.map encApiMotion v4)],[.d (.int .i64 y3.2.1.Motion),.d (.int .i64 y3.2.1.Distance),.d (.int .i64 y3.2.1.Work),.d (.int .i64 y3.2.1.Length),.d (.int .i64 y3.2.1.Return),.d (.int .i64 y3.2.1.Feed),.d (.int .i64 y3.2.1.Tool),.d (.int .i64 y3.2.1.Offset)],[.d (.int .i64 y3.2.2.1.Code),.d (.int .i64 y3.2.2.1.R),.d (.int .i64 y3.2.2.1.Z),.d (.int .i64 y3.2.2.1.Q),.d (.int .i64 y3.2.2.1.Rate),.d (.int .i64 y3.2.2.1.Initial),.d (.bool y3.2.2.1.High)]],[(54,v1.1.length)]⟩) q3 (fun _ _=>rfl) (by simp only [seval,FMB,rmap_set,spD,zNI]) (by simp only [seval,FMB,rmap_set,spD,zNI]) ?_ ?_)
 intro i2 e2 v4 q4
 refine .sR fun e h=>?_
 simp only [seval,EMB,q4,rmap_set,spD]
 refine mU e (.seqK (.condT rfl (.skip (Mir.toK (.seqK (.block (.sR fun e h=>?_))))))) h
 simp only [seval,EMB,rmap_set,spD]
 refine mU e (.bind fun e3 q5=>?_) h
 replace q5 := gt_ok q5
 refine .regionW fun e h=>regW.alt 3 rfl ?_
 simp only [seval,EMB,w_none,w_eq,rmap_set,spD]
 refine alt_indexR rfl rfl rfl und_42 sz_54 (row_lo q5.1) (row_hi q5.2 q5.1) (regW.alt 0 rfl ?_)
 simp only [seval,EMB,w_none,w_eq,und_42,sz_54,rmap_set,spD]
 refine alt_fieldR rfl rfl fld_54_4 sz_3 (by decide) (regW.alt 0 rfl ?_)
 simp only [seval,EMB,w_none,w_eq,fld_54_4,sz_3,rmap_set,spD]
 refine alt_storeR rfl rfl (row_at q5.2) rfl rfl sz_3 rfl (Nat.le_of_ble_eq_true rfl) (regW.of ?_)
 simp only [seval,EMB,w_none,w_eq,sz_3,rmap_set,spD]
 refine mU e (.region fun e h=>?_) h
 simp only [seval,EMB,rmap_set,spD]
 cases h
 simp only [seval,FMB,rmap_set,spD,Tryd.results8,ag_44,sz_44,q4]
 intro v4 q6
 refine .sR fun e h=>?_
 simp only [seval,EMB,q6,rmap_set,spD]
 refine mU e (.seqK (.condF rfl (.exit fun e h=>?_))) h
 cases h
 simp only [seval,FMB,rmap_set,spD,Tryd.results8,ag_44,sz_44]
 intro v5
 refine Mir.toK (.seqK (.guard fun q7=>.regionW fun e h=>regW.alt 2 rfl ?_))
 simp only [seval,EMB,w_none,w_eq,rmap_set,spD]
 refine alt_appOwnR rfl rfl rfl app_42 (by kernel_rfl) (by simp only [ge0,geS,lm,xMA,xLA]) al_ApiMotion (ok2 q7 (by simp only [lm]) (by simp only [lm])) (regW.of ?_)
 simp only [seval,EMB,w_none,w_eq,lm,rmap_set,spD]
 refine mU e (.seqK (.bind fun y4 h5=>Mir.regionA 0 [] ([.d (.list (List.map encApiBlock a0)),U,U,U,.ptr 0 0,.ptr 1 0,U,.ptr 2 0,U,.ptr 3 0,.ptr 4 0,.own 0 (List.map encApiMotion (v1.1 ++ v5)),U,.ptr 5 0,.gr 6 0,.ptr 7 0,.ptr 8 0,U,U,U,U,U,U,U,U,U,U,U,.d (.list (List.map encApiBlock a0)),.d (.int .i64 (a0.length : Int)),.d (.int .i64 (i1 : Int)),U,U,U,U,U,U,U,U,U,U,U,U,U,U,U,U,U,U,U,U,U,U,U,U,U,U,U,U,U,U,U,U,U,U,U,U,U,U,U,U,U,U,.own 0 (List.map encApiMotion v1.1),.gr 6 0,.own 0 (List.map encApiMotion (v1.1 ++ v5)),.agg [.d (.int .i64 y3.2.1.Motion),.d (.int .i64 y3.2.1.Distance),.d (.int .i64 y3.2.1.Work),.d (.int .i64 y3.2.1.Length),.d (.int .i64 y3.2.1.Return),.d (.int .i64 y3.2.1.Feed),.d (.int .i64 y3.2.1.Tool),.d (.int .i64 y3.2.1.Offset)],.agg [.d (.int .i64 y3.2.2.1.Code),.d (.int .i64 y3.2.2.1.R),.d (.int .i64 y3.2.2.1.Z),.d (.int .i64 y3.2.2.1.Q),.d (.int .i64 y3.2.2.1.Rate),.d (.int .i64 y3.2.2.1.Initial),.d (.bool y3.2.2.1.High)],.agg [.d (.int .i64 v1.2.1.X),.d (.int .i64 v1.2.1.Y),.d (.int .i64 v1.2.1.Z)],.gr 6 0,.agg [.d (.int .i64 y4.X),.d (.int .i64 y4.Y),.d (.int .i64 y4.Z)]] ++ us 10) ⟨[[.d (.int .i64 a1.Work.e0.X),.d (.int .i64 a1.Work.e0.Y),.d (.int .i64 a1.Work.e0.Z),.d (.int .i64 a1.Work.e1.X),.d (.int .i64 a1.Work.e1.Y),.d (.int .i64 a1.Work.e1.Z),.d (.int .i64 a1.Work.e2.X),.d (.int .i64 a1.Work.e2.Y),.d (.int .i64 a1.Work.e2.Z),.d (.int .i64 a1.Work.e3.X),.d (.int .i64 a1.Work.e3.Y),.d (.int .i64 a1.Work.e3.Z),.d (.int .i64 a1.Work.e4.X),.d (.int .i64 a1.Work.e4.Y),.d (.int .i64 a1.Work.e4.Z),.d (.int .i64 a1.Work.e5.X),.d (.int .i64 a1.Work.e5.Y),.d (.int .i64 a1.Work.e5.Z),.d (.list (List.map encTableLength a1.Lengths))],[.d (.int .i64 y4.X),.d (.int .i64 y4.Y),.d (.int .i64 y4.Z)],[.d (.int .i64 0),.d (.int .i64 0)],[.d (.int .i64 y3.2.1.Motion),.d (.int .i64 y3.2.1.Distance),.d (.int .i64 y3.2.1.Work),.d (.int .i64 y3.2.1.Length),.d (.int .i64 y3.2.1.Return),.d (.int .i64 y3.2.1.Feed),.d (.int .i64 y3.2.1.Tool),.d (.int .i64 y3.2.1.Offset)],[.d (.int .i64 y3.2.2.1.Code),.d (.int .i64 y3.2.2.1.R),.d (.int .i64 y3.2.2.1.Z),.d (.int .i64 y3.2.2.1.Q),.d (.int .i64 y3.2.2.1.Rate),.d (.int .i64 y3.2.2.1.Initial),.d (.bool y3.2.2.1.High)],[.d (.bool e1.Skip),.d (.list (List.map encApiWord e1.Words)),.d (.str e1.Comment)],[.rowc 54 0 (List.map encApiMotion v5)],[.d (.int .i64 y3.2.1.Motion),.d (.int .i64 y3.2.1.Distance),.d (.int .i64 y3.2.1.Work),.d (.int .i64 y3.2.1.Length),.d (.int .i64 y3.2.1.Return),.d (.int .i64 y3.2.1.Feed),.d (.int .i64 y3.2.1.Tool),.d (.int .i64 y3.2.1.Offset)],[.d (.int .i64 y3.2.2.1.Code),.d (.int .i64 y3.2.2.1.R),.d (.int .i64 y3.2.2.1.Z),.d (.int .i64 y3.2.2.1.Q),.d (.int .i64 y3.2.2.1.Rate),.d (.int .i64 y3.2.2.1.Initial),.d (.bool y3.2.2.1.High)]],[(54,(v1.1 ++ v5).length)]⟩ (by kernel_rfl) (fun e h=>?_) (fun e h=>?_))) h
 simp only [seval,EMB,w_none,w_eq,SB,rmap_set,spD]
 refine regA.moveB (j := 3) (by kernel_rfl) rfl rfl ?_
 simp only [seval,EMB,w_none,w_eq,rmap_set,spD]
 refine regA.three (j := 0) (k := 1) (l := 2) (by kernel_rfl) rfl rfl rfl ?_ ?_ ?_
 refine regW.of ?_
 simp only [seval,EMB,w_none,w_eq,ag_34,sz_34,rmap_set,spD]
 refine regA.two (j := 1) (k := 2) (by kernel_rfl) rfl rfl ?_ ?_
 refine regW.of ?_
 simp only [seval,EMB,w_none,w_eq,ag_64,sz_64,rmap_set,spD]
 refine regA.one (j := 2) (by kernel_rfl) rfl (regW.of ?_)
 simp only [seval,EMB,w_none,w_eq,ag_24,sz_24,rmap_set,spD]
 refine regA.one (j := 4) (by kernel_rfl) rfl (regW.of ?_)
 simp only [seval,EMB,w_none,w_eq,rmap_set,spD]
 refine SpecS.byZ (inp_End_spec h5) rfl rfl ?_
 simp only [seval,EMB,w_none,w_eq,rmap_set,spD]
 refine regA.one (j := 5) (by kernel_rfl) rfl (regW.of ?_)
 simp only [seval,EMB,w_none,w_eq,sz_34,rmap_set,spD]
 refine regA.one (j := 6) (by kernel_rfl) rfl (regW.of ?_)
 simp only [seval,EMB,w_none,w_eq,sz_64,rmap_set,spD]
 refine regA.one (j := 7) (by kernel_rfl) rfl (regW.of ?_)
 simp only [seval,EMB,w_none,w_eq,sz_24,rmap_set,spD]
 exact regA.nil (by kernel_rfl) ⟨by first | rfl | simp only [seval,FMB,rmap_set,spD,xMA,xLA],by first | rfl | simp only [seval,FMB,rmap_set,spD,xMA,xLA]⟩
 refine regW.of ?_
 simp only [seval,EMB,w_none,w_eq,ag_24,sz_24,rmap_set,spD]
 refine regA.two (j := 1) (k := 4) (by kernel_rfl) rfl rfl ?_ ?_
 refine regW.of ?_
 simp only [seval,EMB,w_none,w_eq,ag_64,sz_64,rmap_set,spD]
 refine regA.one (j := 4) (by kernel_rfl) rfl (regW.of ?_)
 simp only [seval,EMB,w_none,w_eq,rmap_set,spD]
 refine SpecS.byZ (inp_End_spec h5) rfl rfl ?_
 simp only [seval,EMB,w_none,w_eq,rmap_set,spD]
 refine regA.one (j := 5) (by kernel_rfl) rfl (regW.of ?_)
 simp only [seval,EMB,w_none,w_eq,sz_34,rmap_set,spD]
 refine regA.one (j := 6) (by kernel_rfl) rfl (regW.of ?_)
 simp only [seval,EMB,w_none,w_eq,sz_64,rmap_set,spD]
 refine regA.one (j := 7) (by kernel_rfl) rfl (regW.of ?_)
 simp only [seval,EMB,w_none,w_eq,sz_24,rmap_set,spD]
 exact regA.nil (by kernel_rfl) ⟨by first | rfl | simp only [seval,FMB,rmap_set,spD,xMA,xLA],by first | rfl | simp only [seval,FMB,rmap_set,spD,xMA,xLA]⟩
 refine regW.of ?_
 simp only [seval,EMB,w_none,w_eq,rmap_set,spD]
 refine SpecS.byZ (inp_End_spec h5) rfl rfl ?_
 simp only [seval,EMB,w_none,w_eq,rmap_set,spD]
 refine regA.two (j := 1) (k := 5) (by kernel_rfl) rfl rfl ?_ ?_
 refine regW.of ?_
 simp only [seval,EMB,w_none,w_eq,ag_64,sz_64,rmap_set,spD]
 refine regA.one (j := 5) (by kernel_rfl) rfl (regW.of ?_)
 simp only [seval,EMB,w_none,w_eq,sz_34,rmap_set,spD]
 refine regA.one (j := 6) (by kernel_rfl) rfl (regW.of ?_)
 simp only [seval,EMB,w_none,w_eq,sz_64,rmap_set,spD]
 refine regA.one (j := 7) (by kernel_rfl) rfl (regW.of ?_)
 simp only [seval,EMB,w_none,w_eq,sz_24,rmap_set,spD]
 exact regA.nil (by kernel_rfl) ⟨by first | rfl | simp only [seval,FMB,rmap_set,spD,xMA,xLA],by first | rfl | simp only [seval,FMB,rmap_set,spD,xMA,xLA]⟩
 refine regW.of ?_
 simp only [seval,EMB,w_none,w_eq,sz_34,rmap_set,spD]
 refine regA.one (j := 1) (by kernel_rfl) rfl (regW.of ?_)
 simp only [seval,EMB,w_none,w_eq,ag_64,sz_64,rmap_set,spD]
 refine regA.one (j := 6) (by kernel_rfl) rfl (regW.of ?_)
 simp only [seval,EMB,w_none,w_eq,sz_64,rmap_set,spD]
 refine regA.one (j := 7) (by kernel_rfl) rfl (regW.of ?_)
 simp only [seval,EMB,w_none,w_eq,sz_24,rmap_set,spD]
 exact regA.nil (by kernel_rfl) ⟨by first | rfl | simp only [seval,FMB,rmap_set,spD,xMA,xLA],by first | rfl | simp only [seval,FMB,rmap_set,spD,xMA,xLA]⟩
 refine regW.of ?_
 simp only [seval,EMB,w_none,w_eq,ag_64,sz_64,rmap_set,spD]
 refine regA.two (j := 0) (k := 2) (by kernel_rfl) rfl rfl ?_ ?_
 refine regW.of ?_
 simp only [seval,EMB,w_none,w_eq,ag_34,sz_34,rmap_set,spD]
 refine regA.one (j := 2) (by kernel_rfl) rfl (regW.of ?_)
 simp only [seval,EMB,w_none,w_eq,ag_24,sz_24,rmap_set,spD]
 refine regA.one (j := 4) (by kernel_rfl) rfl (regW.of ?_)
 simp only [seval,EMB,w_none,w_eq,rmap_set,spD]
 refine SpecS.byZ (inp_End_spec h5) rfl rfl ?_
 simp only [seval,EMB,w_none,w_eq,rmap_set,spD]
 refine regA.one (j := 5) (by kernel_rfl) rfl (regW.of ?_)
 simp only [seval,EMB,w_none,w_eq,sz_34,rmap_set,spD]
 refine regA.one (j := 6) (by kernel_rfl) rfl (regW.of ?_)
 simp only [seval,EMB,w_none,w_eq,sz_64,rmap_set,spD]
 refine regA.one (j := 7) (by kernel_rfl) rfl (regW.of ?_)
 simp only [seval,EMB,w_none,w_eq,sz_24,rmap_set,spD]
 exact regA.nil (by kernel_rfl) ⟨by first | rfl | simp only [seval,FMB,rmap_set,spD,xMA,xLA],by first | rfl | simp only [seval,FMB,rmap_set,spD,xMA,xLA]⟩
 refine regW.of ?_
 simp only [seval,EMB,w_none,w_eq,ag_24,sz_24,rmap_set,spD]
 refine regA.two (j := 0) (k := 4) (by kernel_rfl) rfl rfl ?_ ?_
 refine regW.of ?_
 simp only [seval,EMB,w_none,w_eq,ag_34,sz_34,rmap_set,spD]
 refine regA.one (j := 4) (by kernel_rfl) rfl (regW.of ?_)
 simp only [seval,EMB,w_none,w_eq,rmap_set,spD]
 refine SpecS.byZ (inp_End_spec h5) rfl rfl ?_
 simp only [seval,EMB,w_none,w_eq,rmap_set,spD]
 refine regA.one (j := 5) (by kernel_rfl) rfl (regW.of ?_)
 simp only [seval,EMB,w_none,w_eq,sz_34,rmap_set,spD]
 refine regA.one (j := 6) (by kernel_rfl) rfl (regW.of ?_)
 simp only [seval,EMB,w_none,w_eq,sz_64,rmap_set,spD]
 refine regA.one (j := 7) (by kernel_rfl) rfl (regW.of ?_)
 simp only [seval,EMB,w_none,w_eq,sz_24,rmap_set,spD]
 exact regA.nil (by kernel_rfl) ⟨by first | rfl | simp only [seval,FMB,rmap_set,spD,xMA,xLA],by first | rfl | simp only [seval,FMB,rmap_set,spD,xMA,xLA]⟩
 refine regW.of ?_
 simp only [seval,EMB,w_none,w_eq,rmap_set,spD]
 refine SpecS.byZ (inp_End_spec h5) rfl rfl ?_
 simp only [seval,EMB,w_none,w_eq,rmap_set,spD]
 refine regA.one (j := 0) (by kernel_rfl) rfl (regW.of ?_)
 simp only [seval,EMB,w_none,w_eq,ag_34,sz_34,rmap_set,spD]
 refine regA.one (j := 5) (by kernel_rfl) rfl (regW.of ?_)
 simp only [seval,EMB,w_none,w_eq,sz_34,rmap_set,spD]
 refine regA.one (j := 6) (by kernel_rfl) rfl (regW.of ?_)
 simp only [seval,EMB,w_none,w_eq,sz_64,rmap_set,spD]
 refine regA.one (j := 7) (by kernel_rfl) rfl (regW.of ?_)
 simp only [seval,EMB,w_none,w_eq,sz_24,rmap_set,spD]
 exact regA.nil (by kernel_rfl) ⟨by first | rfl | simp only [seval,FMB,rmap_set,spD,xMA,xLA],by first | rfl | simp only [seval,FMB,rmap_set,spD,xMA,xLA]⟩
 refine regW.of ?_
 simp only [seval,EMB,w_none,w_eq,ag_24,sz_24,rmap_set,spD]
 refine regA.three (j := 0) (k := 1) (l := 4) (by kernel_rfl) rfl rfl rfl ?_ ?_ ?_
 refine regW.of ?_
 simp only [seval,EMB,w_none,w_eq,ag_34,sz_34,rmap_set,spD]
 refine regA.two (j := 1) (k := 4) (by kernel_rfl) rfl rfl ?_ ?_
 refine regW.of ?_
 simp only [seval,EMB,w_none,w_eq,ag_64,sz_64,rmap_set,spD]
 refine regA.one (j := 4) (by kernel_rfl) rfl (regW.of ?_)
 simp only [seval,EMB,w_none,w_eq,rmap_set,spD]
 refine SpecS.byZ (inp_End_spec h5) rfl rfl ?_
 simp only [seval,EMB,w_none,w_eq,rmap_set,spD]
 refine regA.one (j := 5) (by kernel_rfl) rfl (regW.of ?_)
 simp only [seval,EMB,w_none,w_eq,sz_34,rmap_set,spD]
 refine regA.one (j := 6) (by kernel_rfl) rfl (regW.of ?_)
 simp only [seval,EMB,w_none,w_eq,sz_64,rmap_set,spD]
 refine regA.one (j := 7) (by kernel_rfl) rfl (regW.of ?_)
 simp only [seval,EMB,w_none,w_eq,sz_24,rmap_set,spD]
 exact regA.nil (by kernel_rfl) ⟨by first | rfl | simp only [seval,FMB,rmap_set,spD,xMA,xLA],by first | rfl | simp only [seval,FMB,rmap_set,spD,xMA,xLA]⟩
 refine regW.of ?_
 simp only [seval,EMB,w_none,w_eq,rmap_set,spD]
 refine SpecS.byZ (inp_End_spec h5) rfl rfl ?_
 simp only [seval,EMB,w_none,w_eq,rmap_set,spD]
 refine regA.two (j := 1) (k := 5) (by kernel_rfl) rfl rfl ?_ ?_
 refine regW.of ?_
 simp only [seval,EMB,w_none,w_eq,ag_64,sz_64,rmap_set,spD]
 refine regA.one (j := 5) (by kernel_rfl) rfl (regW.of ?_)
 simp only [seval,EMB,w_none,w_eq,sz_34,rmap_set,spD]
 refine regA.one (j := 6) (by kernel_rfl) rfl (regW.of ?_)
 simp only [seval,EMB,w_none,w_eq,sz_64,rmap_set,spD]
 refine regA.one (j := 7) (by kernel_rfl) rfl (regW.of ?_)
 simp only [seval,EMB,w_none,w_eq,sz_24,rmap_set,spD]
 exact regA.nil (by kernel_rfl) ⟨by first | rfl | simp only [seval,FMB,rmap_set,spD,xMA,xLA],by first | rfl | simp only [seval,FMB,rmap_set,spD,xMA,xLA]⟩
 refine regW.of ?_
 simp only [seval,EMB,w_none,w_eq,sz_34,rmap_set,spD]
 refine regA.one (j := 1) (by kernel_rfl) rfl (regW.of ?_)
 simp only [seval,EMB,w_none,w_eq,ag_64,sz_64,rmap_set,spD]
 refine regA.one (j := 6) (by kernel_rfl) rfl (regW.of ?_)
 simp only [seval,EMB,w_none,w_eq,sz_64,rmap_set,spD]
 refine regA.one (j := 7) (by kernel_rfl) rfl (regW.of ?_)
 simp only [seval,EMB,w_none,w_eq,sz_24,rmap_set,spD]
 exact regA.nil (by kernel_rfl) ⟨by first | rfl | simp only [seval,FMB,rmap_set,spD,xMA,xLA],by first | rfl | simp only [seval,FMB,rmap_set,spD,xMA,xLA]⟩
 refine regW.of ?_
 simp only [seval,EMB,w_none,w_eq,ag_64,sz_64,rmap_set,spD]
 refine regA.two (j := 0) (k := 4) (by kernel_rfl) rfl rfl ?_ ?_
 refine regW.of ?_
 simp only [seval,EMB,w_none,w_eq,ag_34,sz_34,rmap_set,spD]
 refine regA.one (j := 4) (by kernel_rfl) rfl (regW.of ?_)
 simp only [seval,EMB,w_none,w_eq,rmap_set,spD]
 refine SpecS.byZ (inp_End_spec h5) rfl rfl ?_
 simp only [seval,EMB,w_none,w_eq,rmap_set,spD]
 refine regA.one (j := 5) (by kernel_rfl) rfl (regW.of ?_)
 simp only [seval,EMB,w_none,w_eq,sz_34,rmap_set,spD]
 refine regA.one (j := 6) (by kernel_rfl) rfl (regW.of ?_)
 simp only [seval,EMB,w_none,w_eq,sz_64,rmap_set,spD]
 refine regA.one (j := 7) (by kernel_rfl) rfl (regW.of ?_)
 simp only [seval,EMB,w_none,w_eq,sz_24,rmap_set,spD]
 exact regA.nil (by kernel_rfl) ⟨by first | rfl | simp only [seval,FMB,rmap_set,spD,xMA,xLA],by first | rfl | simp only [seval,FMB,rmap_set,spD,xMA,xLA]⟩
 refine regW.of ?_
 simp only [seval,EMB,w_none,w_eq,rmap_set,spD]
 refine SpecS.byZ (inp_End_spec h5) rfl rfl ?_
 simp only [seval,EMB,w_none,w_eq,rmap_set,spD]
 refine regA.one (j := 0) (by kernel_rfl) rfl (regW.of ?_)
 simp only [seval,EMB,w_none,w_eq,ag_34,sz_34,rmap_set,spD]
 refine regA.one (j := 5) (by kernel_rfl) rfl (regW.of ?_)
 simp only [seval,EMB,w_none,w_eq,sz_34,rmap_set,spD]
 refine regA.one (j := 6) (by kernel_rfl) rfl (regW.of ?_)
 simp only [seval,EMB,w_none,w_eq,sz_64,rmap_set,spD]
 refine regA.one (j := 7) (by kernel_rfl) rfl (regW.of ?_)
 simp only [seval,EMB,w_none,w_eq,sz_24,rmap_set,spD]
 exact regA.nil (by kernel_rfl) ⟨by first | rfl | simp only [seval,FMB,rmap_set,spD,xMA,xLA],by first | rfl | simp only [seval,FMB,rmap_set,spD,xMA,xLA]⟩
 refine regW.of ?_
 simp only [seval,EMB,w_none,w_eq,rmap_set,spD]
 refine SpecS.byZ (inp_End_spec h5) rfl rfl ?_
 simp only [seval,EMB,w_none,w_eq,rmap_set,spD]
 refine regA.two (j := 0) (k := 1) (by kernel_rfl) rfl rfl ?_ ?_
 refine regW.of ?_
 simp only [seval,EMB,w_none,w_eq,ag_34,sz_34,rmap_set,spD]
 refine regA.two (j := 1) (k := 5) (by kernel_rfl) rfl rfl ?_ ?_
 refine regW.of ?_
 simp only [seval,EMB,w_none,w_eq,ag_64,sz_64,rmap_set,spD]
 refine regA.one (j := 5) (by kernel_rfl) rfl (regW.of ?_)
 simp only [seval,EMB,w_none,w_eq,sz_34,rmap_set,spD]
 refine regA.one (j := 6) (by kernel_rfl) rfl (regW.of ?_)
 simp only [seval,EMB,w_none,w_eq,sz_64,rmap_set,spD]
 refine regA.one (j := 7) (by kernel_rfl) rfl (regW.of ?_)
 simp only [seval,EMB,w_none,w_eq,sz_24,rmap_set,spD]
 exact regA.nil (by kernel_rfl) ⟨by first | rfl | simp only [seval,FMB,rmap_set,spD,xMA,xLA],by first | rfl | simp only [seval,FMB,rmap_set,spD,xMA,xLA]⟩
 refine regW.of ?_
 simp only [seval,EMB,w_none,w_eq,sz_34,rmap_set,spD]
 refine regA.one (j := 1) (by kernel_rfl) rfl (regW.of ?_)
 simp only [seval,EMB,w_none,w_eq,ag_64,sz_64,rmap_set,spD]
 refine regA.one (j := 6) (by kernel_rfl) rfl (regW.of ?_)
 simp only [seval,EMB,w_none,w_eq,sz_64,rmap_set,spD]
 refine regA.one (j := 7) (by kernel_rfl) rfl (regW.of ?_)
 simp only [seval,EMB,w_none,w_eq,sz_24,rmap_set,spD]
 exact regA.nil (by kernel_rfl) ⟨by first | rfl | simp only [seval,FMB,rmap_set,spD,xMA,xLA],by first | rfl | simp only [seval,FMB,rmap_set,spD,xMA,xLA]⟩
 refine regW.of ?_
 simp only [seval,EMB,w_none,w_eq,ag_64,sz_64,rmap_set,spD]
 refine regA.one (j := 0) (by kernel_rfl) rfl (regW.of ?_)
 simp only [seval,EMB,w_none,w_eq,ag_34,sz_34,rmap_set,spD]
 refine regA.one (j := 5) (by kernel_rfl) rfl (regW.of ?_)
 simp only [seval,EMB,w_none,w_eq,sz_34,rmap_set,spD]
 refine regA.one (j := 6) (by kernel_rfl) rfl (regW.of ?_)
 simp only [seval,EMB,w_none,w_eq,sz_64,rmap_set,spD]
 refine regA.one (j := 7) (by kernel_rfl) rfl (regW.of ?_)
 simp only [seval,EMB,w_none,w_eq,sz_24,rmap_set,spD]
 exact regA.nil (by kernel_rfl) ⟨by first | rfl | simp only [seval,FMB,rmap_set,spD,xMA,xLA],by first | rfl | simp only [seval,FMB,rmap_set,spD,xMA,xLA]⟩
 refine mU e (.seqK (.bind fun y5 h6=>.bind fun y6 h7=>.region fun e h=>?_)) h
 simp only [seval,EMB,ag_41,sz_41,rmap_set,spD]
 refine SpecS.by (bk_Codes_spec h6) (by simp only [seval,FMB,rmap_set,spD]) ?_
 simp only [seval,EMB,rmap_set,spD]
 refine SpecS.by (slices_Contains_int64_int64_spec h7) (by simp only [seval,FMB,rmap_set,spD]) ?_
 simp only [seval,EMB,rmap_set,spD]
 refine mU e (.cond rfl (fun h8=>?_) (fun h8=>?_)) h
 refine .sR fun e h=>?_
 simp only [seval,EMB,zero_44,pl_44,sz_44,rmap_set,spD]
 refine mU e (.ret fun e h=>?_) h
 cases h
 simp only [seval,FMB,rmap_set,spD,Tryd.results8,ag_44,sz_44]
 refine .skip fun e h=>?_
 cases h
 simp only [seval,FMB,rmap_set,spD,Tryd.results8,ag_44,sz_44]
 intro v6
 refine Mir.toK (.region fun e h=>?_)
 simp only [seval,EMB,rmap_set,spD]
 cases h
 simp only [seval,FMB,rmap_set,spD,Tryd.results8,ag_44,sz_44,q2]
 intro v1 q8
 refine .sR fun e h=>?_
 simp only [seval,EMB,q8,rmap_set,spD]
 refine mU e (.seqK (.condF rfl (.exit fun e h=>?_))) h
 cases h
 simp only [seval,FMB,rmap_set,spD,Tryd.results8,ag_44,sz_44]
 intro v7
 refine Mir.toK (.sR fun e h=>?_)
 simp only [seval,EMB,und_22,zero_44,pl_44,sz_44,rmap_set,spD]
 refine mU e (.ret fun e h=>?_) h
 cases h
 simp only [seval,FMB,rmap_set,spD,Tryd.results8,ag_44,sz_44]
def l47_awake  : Option Bool := bindO (l47_program true) fun (y1 : (List ApiBlock))=>bindO (r47_Table ) fun (y2 : R45Table)=>bindO (l47_theirs y2) fun (y3 : TableTable)=>bindO (inp_Blocks y1 y3 (ApiPos.mk 0 0 0)) fun (y4 : (List ApiMotion) × InterpreterAlarm)=>bindO (l47_program false) fun (y5 : (List ApiBlock))=>bindO (r47_Table ) fun (y6 : R45Table)=>bindO (l47_theirs y6) fun (y7 : TableTable)=>bindO (inp_Blocks y5 y7 (ApiPos.mk 0 0 0)) fun (y8 : (List ApiMotion) × InterpreterAlarm)=>bindO (if ((y4.1.length : Int) == 2) = true then bindO (gt y4.1 0) fun (e1 : ApiMotion)=>if ((e1.From.X == 0) && ((e1.From.Y == 0) && ((e1.From.Z == 0) && ((e1.To.X == 1000) && ((e1.To.Y == 2000) && ((e1.To.Z == 74500) && ((e1.Rate == 0) && ((e1.Tool == 3) && (e1.Block == 1))))))))) = true then bindO (gt y4.1 1) fun (e2 : ApiMotion)=>if ((e2.From.X == 1000) && ((e2.From.Y == 2000) && ((e2.From.Z == 74500) && ((e2.To.X == 2000) && ((e2.To.Y == 2000) && ((e2.To.Z == 74500) && ((e2.Rate == 10000) && ((e2.Tool == 3) && (e2.Block == 2))))))))) = true then if ((y4.2.Block == (-1)) && (y4.2.Code == 0)) = true then some ((y8.2.Block == 2) && (y8.2.Code == 13)) else some false else some false else some false else some false) fun (v1 : Bool)=>some v1
theorem l47_awake_spec  {y : Bool} (h : l47_awake = some y) : Spec gP 4 [] (.d (.bool y)) := by
 refine spec_mir Tryd.func4 rfl (by kernel_rfl) (by kernel_rfl) (fun y : Bool=>.d (.bool y)) ?_ h
 unfold l47_awake
 simp only [List.replicate,List.length,nS,nA,Tryd.ntmps4,SV]
 refine .sR fun e h=>?_
 simp only [seval,EMB]
 refine mU e (.seqK (.bind fun y1 hy1=>.bind fun y2 hy2=>.bind fun y3 hy3=>.bind fun y4 hy4=>.region fun e h=>?_)) h
 simp only [seval,EMB]
 refine SpecS.by (l47_program_spec hy1) (by simp only [seval,FMB]) ?_
 simp only [seval,EMB]
 refine SpecS.by (r47_Table_spec hy2) (rfl) ?_
 simp only [seval,EMB]
 refine SpecS.by (l47_theirs_spec hy3) (by simp only [seval,FMB]) ?_
 simp only [seval,EMB,zero_24,pl_24]
 refine SpecS.by (inp_Blocks_spec hy4) (by simp only [seval,FMB]) ?_
 simp only [seval,EMB,zero_44,sz_44]
 refine mU e (.seqK (.bind fun y5 hy5=>.bind fun y6 hy6=>.bind fun y7 hy7=>.bind fun y8 hy8=>.region fun e h=>?_)) h
 simp only [seval,EMB]
 refine SpecS.by (l47_program_spec hy5) (by simp only [seval,FMB]) ?_
 simp only [seval,EMB]
 refine SpecS.by (r47_Table_spec hy6) (rfl) ?_
 simp only [seval,EMB]
 refine SpecS.by (l47_theirs_spec hy7) (by simp only [seval,FMB]) ?_
 simp only [seval,EMB,zero_24,pl_24]
 refine SpecS.by (inp_Blocks_spec hy8) (by simp only [seval,FMB]) ?_
 simp only [seval,EMB,zero_44,sz_44]
 refine mU e (.sR fun e h=>?_) h
 simp only [seval,EMB,zero_24,pl_24,sz_24]
 refine mU e (.seqK (Mir.joinO (fun v1 : Bool=>([.d (.bool v1)] ++ us 52)) (fun v1=>⟨[[.d (.int .i64 y4.2.Block),.d (.int .i64 y4.2.Code)],[.d (.int .i64 y8.2.Block),.d (.int .i64 y8.2.Code)],[.d (.int .i64 1000),.d (.int .i64 2000),.d (.int .i64 74500)]],[]⟩) (fun _=>rfl) ?_ ?_)) h
 refine .ite (fun hb9=>?_) (fun hb9=>?_)
 refine .bind fun e1 q10=>?_
 replace q10 := gt_ok q10
 simp only [Int.reduceToNat,Int.reduceLT,Nat.sub_zero,dp0] at q10
 refine .ite (fun hb11=>?_) (fun hb11=>?_)
 refine .bind fun e2 q12=>?_
 replace q12 := gt_ok q12
 simp only [Int.reduceToNat,Int.reduceLT,Nat.sub_zero,dp0] at q12
 refine .ite (fun hb13=>?_) (fun hb13=>?_)
 refine .ite (fun hb14=>?_) (fun hb14=>?_)
 refine .regionD [] (by kernel_rfl) fun e h=>?_
 simp only [seval,EMB,SB,und_42,sz_54,q10,ag_54,ag_24,sz_24,zero_54,pl_54,gE_54,q12,zero_24,pl_24,ag_44,sz_44,zero_44,pl_44,gE_44,hb9,hb11,hb13,hb14]
 cases h
 simp only [seval,FMB,hb9,hb11,hb13,hb14]
 refine .regionD [] (by kernel_rfl) fun e h=>?_
 simp only [seval,EMB,SB,und_42,sz_54,q10,ag_54,ag_24,sz_24,zero_54,pl_54,gE_54,q12,zero_24,pl_24,ag_44,sz_44,zero_44,pl_44,gE_44,hb9,hb11,hb13,hb14]
 cases h
 simp only [seval,FMB,hb9,hb11,hb13,hb14]
 refine .regionD [] (by kernel_rfl) fun e h=>?_
 simp only [seval,EMB,SB,und_42,sz_54,q10,ag_54,ag_24,sz_24,zero_54,pl_54,gE_54,q12,zero_24,pl_24,hb9,hb11,hb13]
 cases h
 simp only [seval,FMB,hb9,hb11,hb13]
 refine .regionD [] (by kernel_rfl) fun e h=>?_
 simp only [seval,EMB,SB,und_42,sz_54,q10,ag_54,ag_24,sz_24,zero_54,pl_54,gE_54,hb9,hb11]
 cases h
 simp only [seval,FMB,hb9,hb11]
 refine .regionD [] (by kernel_rfl) fun e h=>?_
 simp only [seval,EMB,SB,und_42,hb9]
 cases h
 simp only [seval,FMB,hb9]
 intro v1
 refine Mir.toK (.ret fun e h=>?_)
 cases h
 simp only [seval,FMB,Tryd.results4]
end Go.Proofs.YtnnelopkjdgbgaaDoor
