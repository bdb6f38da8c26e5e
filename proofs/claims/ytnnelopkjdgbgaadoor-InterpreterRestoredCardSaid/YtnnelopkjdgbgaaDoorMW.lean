import Derived.Test.YtnnelopkjdgbgaaDoorGx
import Derived.Test.YtnnelopkjdgbgaaDoorTy
import Derived.Test.YtnnelopkjdgbgaaDoorMB
import Derived.Test.YtnnelopkjdgbgaaDoorMH
namespace Go.Proofs.YtnnelopkjdgbgaaDoor
open Go.RowKit
open Nat renaming reduceAdd → nA,reduceSub → nS,reduceMul → nM,reduceEqDiff → nE,reduceLeDiff → nL,reduceLT → nT,reduceBEq → nB
open Int renaming reduceLT → iT,reduceToNat → iN,reduceEq → iE
set_option linter.unusedVariables false
set_option linter.unusedSimpArgs false
set_option maxRecDepth 100000
set_option maxHeartbeats 8000000
theorem EMW : type_of% (And.intro @SE <| @ENMB) := And.intro @SE <| @ENMB
theorem FMW : type_of% (And.intro @SF <| @ENMB) := And.intro @SF <| @ENMB
def md_Line (a0 : ModalState) : Option ApiBlock := bindO (some ()) fun (v1 : Unit)=>some (ApiBlock.mk false [ApiWord.mk 71 a0.Motion,ApiWord.mk 71 a0.Distance,ApiWord.mk 71 a0.Work,ApiWord.mk 71 a0.Length,ApiWord.mk 71 a0.Return,ApiWord.mk 70 a0.Feed,ApiWord.mk 84 a0.Tool,ApiWord.mk 72 a0.Offset] [])
theorem md_Line_spec {a0 : ModalState} {y : ApiBlock} (h : md_Line a0 = some y) : Spec gP 11 [.agg [.d (.int .i64 a0.Motion),.d (.int .i64 a0.Distance),.d (.int .i64 a0.Work),.d (.int .i64 a0.Length),.d (.int .i64 a0.Return),.d (.int .i64 a0.Feed),.d (.int .i64 a0.Tool),.d (.int .i64 a0.Offset)]] (.agg [.d (.bool y.Skip),.d (.list (List.map encApiWord y.Words)),.d (.str y.Comment)]) := by
 refine spec_mir Tryd.func11 rfl (by kernel_rfl) (by kernel_rfl) (fun y : ApiBlock=>.agg [.d (.bool y.Skip),.d (.list (List.map encApiWord y.Words)),.d (.str y.Comment)]) ?_ h
 unfold md_Line
 simp only [List.replicate,List.length,nS,nA,Tryd.ntmps11,SV]
 refine .sR fun e h=>?_
 simp only [seval,EMW,zero_41,eInt]
 refine mU e (.sR fun e h=>?_) h
 simp only [seval,EMW,zero_41,eInt]
 refine mU e (.seqK (.sR fun e h=>?_)) h
 simp only [seval,EMW,fld_34_0,sz_2,ag_2,fld_34_1,fld_34_2,fld_34_3,fld_34_4,und_69,zero_2,(oL 5),(nr rfl : ((5 : Nat) : Int) = 5),eInt]
 refine mU e (.gh [.cell 2 1 77] rfl (Mir.joinO (fun v1 : Unit=>([U,.ptr 0 0,.ptr 1 0,.ptr 2 0] ++ us 41)) (fun v1=>⟨[[.d (.int .i64 a0.Motion),.d (.int .i64 a0.Distance),.d (.int .i64 a0.Work),.d (.int .i64 a0.Length),.d (.int .i64 a0.Return),.d (.int .i64 a0.Feed),.d (.int .i64 a0.Tool),.d (.int .i64 a0.Offset)],[.d (.bool false),.nil,.d (.str [])],[.d (.bool false),.own 0 (List.map encApiWord [ApiWord.mk 71 a0.Motion,ApiWord.mk 71 a0.Distance,ApiWord.mk 71 a0.Work,ApiWord.mk 71 a0.Length,ApiWord.mk 71 a0.Return]),.d (.str [])]],[(77,5)]⟩) (fun _=>rfl) ?_ ?_)) h
 refine .block (.loopR 15 (.sR fun e h=>?_))
 simp only [seval,EMW,eInt]
 refine mU e (.seqK (.condT rfl (.skip (Mir.toK (.seqK (.block (.sR fun e h=>?_))))))) h
 simp only [seval,EMW,und_69,sz_2,ag_2,eInt]
 refine mU e (.region fun e h=>?_) h
 simp only [seval,EMW,fld_41_1,sz_39,ag_39,zero_77,pl_77,und_39,sz_77,(oL 2),app_39,al_ApiWord,(oL 1),eInt]
 refine mU e (.region fun e h=>?_) h
 simp only [seval,EMW,(nr rfl : IntKind.i64.wrap 1 = 1),eInt]
 refine Mir.useN (e := e) ?_ h
 refine .sR fun e h=>?_
 simp only [seval,EMW,eInt]
 refine mU e (.seqK (.condT rfl (.skip (Mir.toK (.seqK (.block (.sR fun e h=>?_))))))) h
 simp only [seval,EMW,und_69,sz_2,ag_2,eInt]
 refine mU e (.region fun e h=>?_) h
 simp only [seval,EMW,fld_41_1,sz_39,ag_39,zero_77,pl_77,und_39,sz_77,(oL 2),app_39,al_ApiWord,eInt]
 refine mU e (.region fun e h=>?_) h
 simp only [seval,EMW,(nr rfl : IntKind.i64.wrap 2 = 2),eInt]
 refine Mir.useN (e := e) ?_ h
 refine .sR fun e h=>?_
 simp only [seval,EMW,eInt]
 refine mU e (.seqK (.condT rfl (.skip (Mir.toK (.seqK (.block (.sR fun e h=>?_))))))) h
 simp only [seval,EMW,und_69,sz_2,ag_2,eInt]
 refine mU e (.region fun e h=>?_) h
 simp only [seval,EMW,fld_41_1,sz_39,ag_39,zero_77,pl_77,und_39,sz_77,(oL 2),app_39,al_ApiWord,(oL 3),eInt]
 refine mU e (.region fun e h=>?_) h
 simp only [seval,EMW,(nr rfl : IntKind.i64.wrap 3 = 3),eInt]
 refine Mir.useN (e := e) ?_ h
 refine .sR fun e h=>?_
 simp only [seval,EMW,eInt]
 refine mU e (.seqK (.condT rfl (.skip (Mir.toK (.seqK (.block (.sR fun e h=>?_))))))) h
 simp only [seval,EMW,und_69,sz_2,ag_2,eInt]
 refine mU e (.region fun e h=>?_) h
 simp only [seval,EMW,fld_41_1,sz_39,ag_39,zero_77,pl_77,und_39,sz_77,(oL 2),app_39,al_ApiWord,(oL 4),eInt]
 refine mU e (.region fun e h=>?_) h
 simp only [seval,EMW,(nr rfl : IntKind.i64.wrap 4 = 4),eInt]
 refine Mir.useN (e := e) ?_ h
 refine .sR fun e h=>?_
 simp only [seval,EMW,eInt]
 refine mU e (.seqK (.condT rfl (.skip (Mir.toK (.seqK (.block (.sR fun e h=>?_))))))) h
 simp only [seval,EMW,und_69,sz_2,ag_2,eInt]
 refine mU e (.region fun e h=>?_) h
 simp only [seval,EMW,fld_41_1,sz_39,ag_39,zero_77,pl_77,und_39,sz_77,(oL 2),app_39,al_ApiWord,(oL 5),eInt]
 refine mU e (.region fun e h=>?_) h
 simp only [seval,EMW,(nr rfl : IntKind.i64.wrap 5 = 5),eInt]
 refine Mir.useN (e := e) ?_ h
 refine .sR fun e h=>?_
 simp only [seval,EMW,eInt]
 refine mU e (.seqK (.condF rfl (.exit fun e h=>?_))) h
 cases h
 simp only [seval,FMW,eInt,Tryd.results11,ag_41,sz_41]
 intro v1
 refine Mir.toK (.sR fun e h=>?_)
 simp only [seval,EMW,fld_41_1,sz_39,ag_39,fld_34_5,sz_2,ag_2,zero_77,pl_77,fld_34_6,fld_34_7,und_39,sz_77,(oL 6),app_39,al_ApiWord,(oL 8),eInt]
 refine mU e (.sR fun e h=>?_) h
 simp only [seval,EMW,ag_41,sz_41,eInt]
 refine mU e (.ret fun e h=>?_) h
 cases h
 simp only [seval,FMW,eInt,Tryd.results11,ag_41,sz_41]
def md_All (a0 : ModalState) (a1 : (List ApiBlock)) : Option (ModalState × Int × Int) := bindX (guardO (okIdx a1) ( rangeX (fun (i1 : Nat) (e1 : ApiBlock) (v1 : ModalState)=>bindO (md_Apply v1 e1) fun (y1 : ModalState × Int)=>if (y1.2 != 0) = true then some (.ret (.ret (ModalState.mk 0 0 0 0 0 0 0 0,(i1 : Int),y1.2))) else some (.go y1.1)) (fun (v1 : ModalState)=>some (.go v1)) a1 0 a0)) fun (v2 : ModalState)=>some (v2,0,0)
theorem md_All_spec {a0 : ModalState} {a1 : (List ApiBlock)} {y : ModalState × Int × Int} (h : md_All a0 a1 = some y) : Spec gP 15 [.agg [.d (.int .i64 a0.Motion),.d (.int .i64 a0.Distance),.d (.int .i64 a0.Work),.d (.int .i64 a0.Length),.d (.int .i64 a0.Return),.d (.int .i64 a0.Feed),.d (.int .i64 a0.Tool),.d (.int .i64 a0.Offset)],.d (.list (List.map encApiBlock a1))] (.tuple [.agg [.d (.int .i64 y.1.Motion),.d (.int .i64 y.1.Distance),.d (.int .i64 y.1.Work),.d (.int .i64 y.1.Length),.d (.int .i64 y.1.Return),.d (.int .i64 y.1.Feed),.d (.int .i64 y.1.Tool),.d (.int .i64 y.1.Offset)],.d (.int .i64 y.2.1),.d (.int .i64 y.2.2)]) := by
 refine spec_mir Tryd.func15 rfl (by kernel_rfl) (by kernel_rfl) (fun y : ModalState × Int × Int=>.tuple [.agg [.d (.int .i64 y.1.Motion),.d (.int .i64 y.1.Distance),.d (.int .i64 y.1.Work),.d (.int .i64 y.1.Length),.d (.int .i64 y.1.Return),.d (.int .i64 y.1.Feed),.d (.int .i64 y.1.Tool),.d (.int .i64 y.1.Offset)],.d (.int .i64 y.2.1),.d (.int .i64 y.2.2)]) ?_ h
 unfold md_All
 simp only [List.replicate,List.length,nS,nA,Tryd.ntmps15,SV]
 refine .sR fun e h=>?_
 simp only [seval,EMW,zero_34]
 refine mU e (.seqK (.sR fun e h=>?_)) h
 simp only [seval,EMW,und_22]
 refine mU e (Mir.join (fun v2 : ModalState=>([U,U,.ptr 0 0,U,.ptr 1 0] ++ us 27)) (fun v2=>⟨[[.d (.int .i64 v2.Motion),.d (.int .i64 v2.Distance),.d (.int .i64 v2.Work),.d (.int .i64 v2.Length),.d (.int .i64 v2.Return),.d (.int .i64 v2.Feed),.d (.int .i64 v2.Tool),.d (.int .i64 v2.Offset)],[.d (.int .i64 0),.d (.int .i64 0),.d (.int .i64 0),.d (.int .i64 0),.d (.int .i64 0),.d (.int .i64 0),.d (.int .i64 0),.d (.int .i64 0)]],[]⟩) (fun _=>rfl) ?_ ?_) h
 refine .block (.guard fun qg72=>Mir.range (fun (i1 : Nat) (v1 : ModalState)=>([U,U,.ptr 0 0,U,.ptr 1 0,U,U,U,U,U,U,.d (.list (List.map encApiBlock a1)),.d (.int .i64 (a1.length : Int)),.d (.int .i64 (i1 : Int))] ++ us 18)) (fun i1 v1=>⟨[[.d (.int .i64 v1.Motion),.d (.int .i64 v1.Distance),.d (.int .i64 v1.Work),.d (.int .i64 v1.Length),.d (.int .i64 v1.Return),.d (.int .i64 v1.Feed),.d (.int .i64 v1.Tool),.d (.int .i64 v1.Offset)],[.d (.int .i64 0),.d (.int .i64 0),.d (.int .i64 0),.d (.int .i64 0),.d (.int .i64 0),.d (.int .i64 0),.d (.int .i64 0),.d (.int .i64 0)]],[]⟩) qg72 (fun _ _=>rfl) (by simp only [seval,FMW,zNI]) (by simp only [seval,FMW,zNI]) ?_ ?_)
 intro i1 e1 v1 qr70
 refine .sR fun e h=>?_
 simp only [seval,EMW,qr70]
 refine mU e (.seqK (.condT rfl (.skip (Mir.toK (.seqK (.block (.sR fun e h=>?_))))))) h
 simp only [seval,EMW,und_22,sz_41,qr70,Int.toNat_natCast,ag_41,zero_41]
 refine mU e (.seqK (.bind fun y1 hy76=>.region fun e h=>?_)) h
 simp only [seval,EMW,ag_34,sz_34,ag_41,sz_41]
 refine SpecS.by (md_Apply_spec hy76) (by simp only [seval,FMW]) ?_
 simp only [seval,EMW,zero_34,sz_34]
 refine mU e (.seqK (.sR fun e h=>?_)) h
 simp only [seval,EMW]
 refine mU e (.cond rfl (fun hb78=>?_) (fun hb78=>?_)) h
 refine .sR fun e h=>?_
 simp only [seval,EMW,zero_34,pl_34,sz_34]
 refine mU e (.ret fun e h=>?_) h
 cases h
 simp only [seval,FMW,Tryd.results15,ag_34,sz_34]
 refine .skip (Mir.toK (.region fun e h=>?_))
 simp only [seval,EMW,ag_34,sz_34]
 refine mU e (.region fun e h=>?_) h
 simp only [seval,EMW]
 cases h
 simp only [seval,FMW,Tryd.results15,ag_34,sz_34,qr70]
 intro v1 qd71
 refine .sR fun e h=>?_
 simp only [seval,EMW,qd71]
 refine mU e (.seqK (.condF rfl (.exit fun e h=>?_))) h
 cases h
 simp only [seval,FMW,Tryd.results15,ag_34,sz_34]
 intro v2
 refine Mir.toK (.sR fun e h=>?_)
 simp only [seval,EMW,ag_34,sz_34]
 refine mU e (.ret fun e h=>?_) h
 cases h
 simp only [seval,FMW,Tryd.results15,ag_34,sz_34]
def inp_States (a0 : (List ApiBlock)) (a1 : Int) : Option (ModalState × Int) := if ((decide (a1 < 0)) || (decide (a1 > (a0.length : Int)))) = true then some (ModalState.mk 0 0 0 0 0 0 0 0,1) else bindO (md_New ) fun (y1 : ModalState)=>bindO (cutT a0 a1) fun (s1 : (List ApiBlock))=>bindO (md_All y1 s1) fun (y2 : ModalState × Int × Int)=>if (y2.2.2 != 0) = true then some (ModalState.mk 0 0 0 0 0 0 0 0,1) else some (y2.1,0)
theorem inp_States_spec {a0 : (List ApiBlock)} {a1 : Int} {y : ModalState × Int} (h : inp_States a0 a1 = some y) : Spec gP 6 [.d (.list (List.map encApiBlock a0)),.d (.int .i64 a1)] (.tuple [.agg [.d (.int .i64 y.1.Motion),.d (.int .i64 y.1.Distance),.d (.int .i64 y.1.Work),.d (.int .i64 y.1.Length),.d (.int .i64 y.1.Return),.d (.int .i64 y.1.Feed),.d (.int .i64 y.1.Tool),.d (.int .i64 y.1.Offset)],.d (.int .i64 y.2)]) := by
 refine spec_mir Tryd.func6 rfl (by kernel_rfl) (by kernel_rfl) (fun y : ModalState × Int=>.tuple [.agg [.d (.int .i64 y.1.Motion),.d (.int .i64 y.1.Distance),.d (.int .i64 y.1.Work),.d (.int .i64 y.1.Length),.d (.int .i64 y.1.Return),.d (.int .i64 y.1.Feed),.d (.int .i64 y.1.Tool),.d (.int .i64 y.1.Offset)],.d (.int .i64 y.2)]) ?_ h
 unfold inp_States
 simp only [List.replicate,List.length,nS,nA,Tryd.ntmps6,SV]
 refine .sR fun e h=>?_
 simp only [seval,EMW,zero_34]
 refine mU e (.seqK (.seqK (.joinV ([.d (.list (List.map encApiBlock a0)),.d (.int .i64 a1),U,U,.ptr 0 0,U,U,U,U,U,U,U,U,U,U,U,.d (.bool ((decide (a1 < 0)) || (decide (a1 > (a0.length : Int)))))] ++ us 14) ⟨[[.d (.int .i64 0),.d (.int .i64 0),.d (.int .i64 0),.d (.int .i64 0),.d (.int .i64 0),.d (.int .i64 0),.d (.int .i64 0),.d (.int .i64 0)]],[]⟩ rfl ?_ ?_))) h
 refine SWs.region ?_
 rcases Bool.eq_false_or_eq_true (decide (a1 < 0)) with hb1 | hb1
 simp only [seval,EMW,SL,PB,hb1]
 simp only [seval,EMW,SL,PB,und_22,hb1]
 refine Mir.toK (.cond rfl (fun hb3=>?_) (fun hb3=>?_))
 refine .sR fun e h=>?_
 simp only [seval,EMW,zero_34,pl_34,sz_34]
 refine mU e (.ret fun e h=>?_) h
 cases h
 simp only [seval,FMW,Tryd.results6,ag_34,sz_34]
 refine .skip (Mir.toK (.seqK (.bind fun y1 hy4=>.bind fun s1 q5=>?_)))
 replace q5 := cutT_ok q5
 refine .bind fun y2 hy6=>.regionD [] (by kernel_rfl) fun e h=>?_
 simp only [seval,EMW,SB]
 refine Spec.by (md_New_spec hy4) (rfl) ?_
 simp only [seval,EMW,SB,und_22,sz_41,q5,Nat.le_refl,and_true,true_and,dm,tm,al_ApiBlock]
 refine Spec.by (md_All_spec hy6) (by simp only [seval,FMW]) ?_
 simp only [seval,EMW,SB,zero_34,sz_34]
 refine mU e (.seqK (.sR fun e h=>?_)) h
 simp only [seval,EMW]
 refine mU e (.cond rfl (fun hb8=>?_) (fun hb8=>?_)) h
 refine .sR fun e h=>?_
 simp only [seval,EMW,zero_34,pl_34,sz_34]
 refine mU e (.ret fun e h=>?_) h
 cases h
 simp only [seval,FMW,Tryd.results6,ag_34,sz_34]
 refine .skip (Mir.toK (.sR fun e h=>?_))
 simp only [seval,EMW,ag_34,sz_34]
 refine mU e (.ret fun e h=>?_) h
 cases h
 simp only [seval,FMW,Tryd.results6,ag_34,sz_34]
end Go.Proofs.YtnnelopkjdgbgaaDoor
