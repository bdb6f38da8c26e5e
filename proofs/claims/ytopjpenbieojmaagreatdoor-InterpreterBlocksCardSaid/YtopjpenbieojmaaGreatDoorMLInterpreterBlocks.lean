import Derived.Test.YtopjpenbieojmaaGreatDoorGx
import Derived.Test.YtopjpenbieojmaaGreatDoorTy
import Derived.Test.YtopjpenbieojmaaGreatDoorGo
import Derived.Test.YtopjpenbieojmaaGreatDoorMB
import Derived.Test.YtopjpenbieojmaaGreatDoorMH
import Derived.Test.YtopjpenbieojmaaGreatDoorMW
namespace Go.Proofs.YtopjpenbieojmaaGreatDoor
open Go.RowKit
open Nat renaming reduceAdd → nA,reduceSub → nS,reduceMul → nM,reduceEqDiff → nE,reduceLeDiff → nL,reduceLT → nT,reduceBEq → nB
open Int renaming reduceLT → iT,reduceToNat → iN,reduceEq → iE
set_option linter.unusedVariables false
set_option linter.unusedSimpArgs false
set_option maxRecDepth 100000
set_option maxHeartbeats 8000000
theorem EMLInterpreterBlocks : type_of% (And.intro @SE <| @ENMB) := And.intro @SE <| @ENMB
theorem FMLInterpreterBlocks : type_of% (And.intro @SF <| @ENMB) := And.intro @SF <| @ENMB
def slices_Clone_api_Block_api_Block (a0 : List ApiBlock) : Option (List ApiBlock) := guardO (okLen a0.length) (some a0)
theorem slices_Clone_api_Block_api_Block_n {c0 : Nat} {y : List ApiBlock} (h : (some []) = some y) : Spec gP 17 [.d (.other (.slice none 0 c0))] (.d (.list (List.map encApiBlock y))) := by
 refine spec_mir Tryz.func17 rfl (by kernel_rfl) (by kernel_rfl) (fun y : List ApiBlock=>.d (.list (List.map encApiBlock y))) ?_ h
 simp only [List.replicate,List.length,nS,nA,Tryz.ntmps17,SV]
 refine .sR fun e h=>?_
 simp only [seval,EMLInterpreterBlocks]
 refine mU e (.seqK (.sR fun e h=>?_)) h
 simp only [seval,EMLInterpreterBlocks,und_39]
 refine mU e (.condT rfl (.sR fun e h=>?_)) h
 simp only [seval,EMLInterpreterBlocks]
 refine mU e (.ret fun e h=>?_) h
 cases h
 simp only [seval,FMLInterpreterBlocks,Tryz.results17]
theorem slices_Clone_api_Block_api_Block_o {p0 : Addr} {c0 : Nat} {y : List ApiBlock} (h : (some []) = some y) : Spec gP 17 [.d (.other (.slice (some p0) 0 c0))] (.d (.list (List.map encApiBlock y))) := by
 refine spec_mir Tryz.func17 rfl (by kernel_rfl) (by kernel_rfl) (fun y : List ApiBlock=>.d (.list (List.map encApiBlock y))) ?_ h
 simp only [List.replicate,List.length,nS,nA,Tryz.ntmps17,SV]
 refine .sR fun e h=>?_
 simp only [seval,EMLInterpreterBlocks]
 refine mU e (.seqK (.sR fun e h=>?_)) h
 simp only [seval,EMLInterpreterBlocks,und_39]
 refine mU e (.condF rfl (.skip (Mir.toK (.sR fun e h=>?_)))) h
 simp only [seval,EMLInterpreterBlocks,und_39,sz_32,zero_32,(oL 0),app_39,al_ApiBlock,List.all_cons,List.all_nil]
 refine mU e (.ret fun e h=>?_) h
 cases h
 simp only [seval,FMLInterpreterBlocks,Tryz.results17]
theorem slices_Clone_api_Block_api_Block_c {x0 : ApiBlock} {l0 : List ApiBlock} {y : List ApiBlock} (h : (guardO (okLen ((x0 :: l0).length)) (   some (x0 :: l0))) = some y) : Spec gP 17 [.d (.list (List.map encApiBlock (x0 :: l0)))] (.d (.list (List.map encApiBlock y))) := by
 refine spec_mir Tryz.func17 rfl (by kernel_rfl) (by kernel_rfl) (fun y : List ApiBlock=>.d (.list (List.map encApiBlock y))) ?_ h
 simp only [List.replicate,List.length,nS,nA,Tryz.ntmps17,SV]
 refine .sR fun e h=>?_
 simp only [seval,EMLInterpreterBlocks]
 refine mU e (.seqK (.sR fun e h=>?_)) h
 simp only [seval,EMLInterpreterBlocks,und_39]
 refine mU e (.condF rfl (.skip (Mir.toK (.seqK (.guard fun q1=>.region fun e h=>?_))))) h
 simp only [seval,EMLInterpreterBlocks,und_39,sz_32,zero_32,(oL 0),app_39,al_ApiBlock,q1]
 refine mU e (.ret fun e h=>?_) h
 cases h
 simp only [seval,FMLInterpreterBlocks,Tryz.results17]
theorem slices_Clone_api_Block_api_Block_spec {a0 : List ApiBlock} {y : List ApiBlock} (h : slices_Clone_api_Block_api_Block a0 = some y) : Spec gP 17 [.d (.list (List.map encApiBlock a0))] (.d (.list (List.map encApiBlock y))) := by
 obtain ⟨hl,h⟩ := guardO_some h
 cases h
 cases a0 with
 | nil =>
  refine Spec.nilcase fun A c=>?_
  cases A with
  | none=>exact slices_Clone_api_Block_api_Block_n rfl
  | some p=>exact slices_Clone_api_Block_api_Block_o rfl
 | cons x l=>exact slices_Clone_api_Block_api_Block_c (by simp only [guardO,hl])
def l47_same (a0 : (List ApiMotion)) (a1 : InterpreterAlarm) (a2 : (List ApiMotion)) (a3 : R47Alarm) : Option Bool := bindO (bindO (r47_Same a0 a2) fun (y1 : Bool)=>if y1 = true then if (a1.Block == a3.Block) = true then some (a1.Code == a3.Code) else some false else some false) fun (v1 : Bool)=>some v1
theorem l47_same_spec {a0 : (List ApiMotion)} {a1 : InterpreterAlarm} {a2 : (List ApiMotion)} {a3 : R47Alarm} {y : Bool} (h : l47_same a0 a1 a2 a3 = some y) : Spec gP 19 [.d (.list (List.map encApiMotion a0)),.agg [.d (.int .i64 a1.Block),.d (.int .i64 a1.Code)],.d (.list (List.map encApiMotion a2)),.agg [.d (.int .i64 a3.Block),.d (.int .i64 a3.Code)]] (.d (.bool y)) := by
 refine spec_mir Tryz.func19 rfl (by kernel_rfl) (by kernel_rfl) (fun y : Bool=>.d (.bool y)) ?_ h
 unfold l47_same
 simp only [List.replicate,List.length,nS,nA,Tryz.ntmps19,SV]
 refine .sR fun e h=>?_
 simp only [seval,EMLInterpreterBlocks]
 refine mU e (.seqK (Mir.joinO (fun v1 : Bool=>([U,U,U,U,U,U,U,U,.d (.bool v1)] ++ us 17)) (fun v1=>⟨[[.d (.int .i64 a1.Block),.d (.int .i64 a1.Code)],[.d (.int .i64 a3.Block),.d (.int .i64 a3.Code)]],[]⟩) (fun _=>rfl) ?_ ?_)) h
 refine .bind fun y1 hy1=>.ite (fun hb2=>?_) (fun hb2=>?_)
 refine .ite (fun hb3=>?_) (fun hb3=>?_)
 refine .region fun e h=>?_
 simp only [seval,EMLInterpreterBlocks,hb2,hb3]
 refine SpecS.by (r47_Same_spec hy1) (by simp only [seval,FMLInterpreterBlocks,hb2,hb3]) ?_
 simp only [seval,EMLInterpreterBlocks,fld_62_0,sz_3,ag_3,fld_66_0,fld_62_1,sz_46,ag_46,fld_66_1,hb2,hb3]
 cases h
 simp only [seval,FMLInterpreterBlocks,hb2,hb3]
 refine .region fun e h=>?_
 simp only [seval,EMLInterpreterBlocks,hb2,hb3]
 refine SpecS.by (r47_Same_spec hy1) (by simp only [seval,FMLInterpreterBlocks,hb2,hb3]) ?_
 simp only [seval,EMLInterpreterBlocks,fld_62_0,sz_3,ag_3,fld_66_0,hb2,hb3]
 cases h
 simp only [seval,FMLInterpreterBlocks,hb2,hb3]
 refine .region fun e h=>?_
 simp only [seval,EMLInterpreterBlocks,hb2]
 refine SpecS.by (r47_Same_spec hy1) (by simp only [seval,FMLInterpreterBlocks,hb2]) ?_
 simp only [seval,EMLInterpreterBlocks,hb2]
 cases h
 simp only [seval,FMLInterpreterBlocks,hb2]
 intro v1
 refine Mir.toK (.ret fun e h=>?_)
 cases h
 simp only [seval,FMLInterpreterBlocks,Tryz.results19]
def l47_InterpreterBlocks (a0 : (List ApiBlock)) (a1 : L47Setting) : Option Bool := bindO (bindO (l47_awake ) fun (y1 : Bool)=>if y1 = true then bindO (l47_few a0 a1) fun (y2 : Bool)=>some (!y2) else some true) fun (v1 : Bool)=>if v1 = true then bindO (l47_awake ) fun (y3 : Bool)=>some y3 else bindO (slices_Clone_api_Block_api_Block a0) fun (y4 : (List ApiBlock))=>bindO (l47_theirs a1.Table) fun (y5 : TableTable)=>bindO (inp_Blocks y4 y5 a1.From) fun (y6 : (List ApiMotion) × InterpreterAlarm)=>bindO (r47_Blocks a0 a1.Table a1.From) fun (y7 : (List ApiMotion) × R47Alarm)=>bindO (l47_same y6.1 y6.2 y7.1 y7.2) fun (y8 : Bool)=>some y8
theorem l47_InterpreterBlocks_spec {a0 : (List ApiBlock)} {a1 : L47Setting} {y : Bool} (h : l47_InterpreterBlocks a0 a1 = some y) : Spec gP 4 [.d (.list (List.map encApiBlock a0)),.agg [.d (.int .i64 a1.Table.Work.e0.X),.d (.int .i64 a1.Table.Work.e0.Y),.d (.int .i64 a1.Table.Work.e0.Z),.d (.int .i64 a1.Table.Work.e1.X),.d (.int .i64 a1.Table.Work.e1.Y),.d (.int .i64 a1.Table.Work.e1.Z),.d (.int .i64 a1.Table.Work.e2.X),.d (.int .i64 a1.Table.Work.e2.Y),.d (.int .i64 a1.Table.Work.e2.Z),.d (.int .i64 a1.Table.Work.e3.X),.d (.int .i64 a1.Table.Work.e3.Y),.d (.int .i64 a1.Table.Work.e3.Z),.d (.int .i64 a1.Table.Work.e4.X),.d (.int .i64 a1.Table.Work.e4.Y),.d (.int .i64 a1.Table.Work.e4.Z),.d (.int .i64 a1.Table.Work.e5.X),.d (.int .i64 a1.Table.Work.e5.Y),.d (.int .i64 a1.Table.Work.e5.Z),.d (.list (List.map encR45Length a1.Table.Lengths)),.d (.int .i64 a1.From.X),.d (.int .i64 a1.From.Y),.d (.int .i64 a1.From.Z)]] (.d (.bool y)) := by
 refine spec_mir Tryz.func4 rfl (by kernel_rfl) (by kernel_rfl) (fun y : Bool=>.d (.bool y)) ?_ h
 unfold l47_InterpreterBlocks
 simp only [List.replicate,List.length,nS,nA,Tryz.ntmps4,SV]
 refine .sR fun e h=>?_
 simp only [seval,EMLInterpreterBlocks]
 refine mU e (.seqK (.seqK (Mir.joinO (fun v1 : Bool=>([.d (.list (List.map encApiBlock a0)),U,U,.ptr 0 0,U,U,U,U,U,U,U,U,U,U,U,U,.d (.bool v1)] ++ us 26)) (fun v1=>⟨[[.d (.int .i64 a1.Table.Work.e0.X),.d (.int .i64 a1.Table.Work.e0.Y),.d (.int .i64 a1.Table.Work.e0.Z),.d (.int .i64 a1.Table.Work.e1.X),.d (.int .i64 a1.Table.Work.e1.Y),.d (.int .i64 a1.Table.Work.e1.Z),.d (.int .i64 a1.Table.Work.e2.X),.d (.int .i64 a1.Table.Work.e2.Y),.d (.int .i64 a1.Table.Work.e2.Z),.d (.int .i64 a1.Table.Work.e3.X),.d (.int .i64 a1.Table.Work.e3.Y),.d (.int .i64 a1.Table.Work.e3.Z),.d (.int .i64 a1.Table.Work.e4.X),.d (.int .i64 a1.Table.Work.e4.Y),.d (.int .i64 a1.Table.Work.e4.Z),.d (.int .i64 a1.Table.Work.e5.X),.d (.int .i64 a1.Table.Work.e5.Y),.d (.int .i64 a1.Table.Work.e5.Z),.d (.list (List.map encR45Length a1.Table.Lengths)),.d (.int .i64 a1.From.X),.d (.int .i64 a1.From.Y),.d (.int .i64 a1.From.Z)]],[]⟩) (fun _=>rfl) ?_ ?_))) h
 refine .bind fun y1 hy1=>.ite (fun hb2=>?_) (fun hb2=>?_)
 refine .bind fun y2 hy3=>.region fun e h=>?_
 simp only [seval,EMLInterpreterBlocks,hb2]
 refine SpecS.by (l47_awake_spec hy1) (rfl) ?_
 simp only [seval,EMLInterpreterBlocks,ag_41,sz_41,hb2]
 refine SpecS.by (l47_few_spec hy3) (by simp only [seval,FMLInterpreterBlocks,hb2]) ?_
 simp only [seval,EMLInterpreterBlocks,hb2]
 cases h
 simp only [seval,FMLInterpreterBlocks,hb2]
 refine .region fun e h=>?_
 simp only [seval,EMLInterpreterBlocks,hb2]
 refine SpecS.by (l47_awake_spec hy1) (rfl) ?_
 simp only [seval,EMLInterpreterBlocks,hb2]
 cases h
 simp only [seval,FMLInterpreterBlocks,hb2]
 intro v1
 refine Mir.toK (.cond rfl (fun hb6=>?_) (fun hb6=>?_))
 refine .seqK (.bind fun y3 hy7=>.region fun e h=>?_)
 simp only [seval,EMLInterpreterBlocks]
 refine SpecS.by (l47_awake_spec hy7) (rfl) ?_
 simp only [seval,EMLInterpreterBlocks]
 refine mU e (.ret fun e h=>?_) h
 cases h
 simp only [seval,FMLInterpreterBlocks,Tryz.results4]
 refine .skip (Mir.toK (.seqK (.bind fun y4 hy8=>.bind fun y5 hy9=>.bind fun y6 hy10=>.regionD [] (by kernel_rfl) fun e h=>?_)))
 simp only [seval,EMLInterpreterBlocks,SB]
 refine Spec.by (slices_Clone_api_Block_api_Block_spec hy8) (by simp only [seval,FMLInterpreterBlocks]) ?_
 simp only [seval,EMLInterpreterBlocks,SB,fld_41_0,sz_36,ag_36]
 refine Spec.by (l47_theirs_spec hy9) (by simp only [seval,FMLInterpreterBlocks]) ?_
 simp only [seval,EMLInterpreterBlocks,SB,fld_41_1,sz_27,ag_27]
 refine Spec.by (inp_Blocks_spec hy10) (by simp only [seval,FMLInterpreterBlocks]) ?_
 simp only [seval,EMLInterpreterBlocks,SB,zero_62,sz_62]
 refine mU e (.seqK (.bind fun y7 hy11=>.region fun e h=>?_)) h
 simp only [seval,EMLInterpreterBlocks,fld_41_0,sz_36,ag_36,fld_41_1,sz_27,ag_27]
 refine SpecS.by (r47_Blocks_spec hy11) (by simp only [seval,FMLInterpreterBlocks]) ?_
 simp only [seval,EMLInterpreterBlocks,zero_66,sz_66]
 refine mU e (.seqK (.bind fun y8 hy12=>.region fun e h=>?_)) h
 simp only [seval,EMLInterpreterBlocks,ag_62,sz_62,ag_66,sz_66]
 refine SpecS.by (l47_same_spec hy12) (by simp only [seval,FMLInterpreterBlocks]) ?_
 simp only [seval,EMLInterpreterBlocks]
 refine mU e (.ret fun e h=>?_) h
 cases h
 simp only [seval,FMLInterpreterBlocks,Tryz.results4]
theorem co_4 : Tryz.prog.cellsOf 4 = 1 := by kernel_rfl
theorem opn_4 : Opn Tryz.prog 4 eBool inBool := Opn.bool Tryz.underlying4
theorem co_5 : Tryz.prog.cellsOf 5 = 1 := by kernel_rfl
theorem opn_5 : Opn Tryz.prog 5 (eInt .u8) (inInt .u8) := Opn.int Tryz.underlying5
theorem co_2 : Tryz.prog.cellsOf 2 = 1 := by kernel_rfl
theorem opn_2 : Opn Tryz.prog 2 (eInt .i64) (inInt .i64) := Opn.int Tryz.underlying2
def inApiWord (x : ApiWord) : Prop := (inInt .u8) x.Letter ∧ (inInt .i64) x.Value
theorem co_117 : Tryz.prog.cellsOf 117 = 2 := by kernel_rfl
theorem opn_117 : Opn Tryz.prog 117 encApiWord inApiWord := by
 intro w H enc fuel cs x h
 obtain ⟨xs,n,_,_,hl,hxl,hf⟩ := DataW.trod_struct Tryz.underlying117 h
 have hxl' : xs.length = 2 := hxl
 obtain ⟨s0,r0,o0⟩ := Opn.field hf 0 5 0 1 rfl co_5 (by omega) opn_5
 obtain ⟨s1,r1,o1⟩ := Opn.field hf 1 2 1 1 rfl co_2 (by omega) opn_2
 refine ⟨⟨s0,s1⟩,?_,o0,o1⟩
 exact (RelC.cut 0 1 r0 rfl (RelC.cut 1 1 r1 rfl (RelC.nil (n := 2) (by rw [hl,co_117]; exact Nat.le_refl _))))
theorem co_30 : Tryz.prog.cellsOf 30 = 1 := by kernel_rfl
theorem opn_30 : Opn Tryz.prog 30 (eList encApiWord) (inList inApiWord) := Opn.slice Tryz.underlying30 opn_117 (fun _=>(rfl : _ = 2).trans co_117.symm) (by rw [co_117]; decide)
theorem co_9 : Tryz.prog.cellsOf 9 = 1 := by kernel_rfl
theorem opn_9 : Opn Tryz.prog 9 eStr inStr := Opn.str Tryz.underlying9
def inApiBlock (x : ApiBlock) : Prop := inBool x.Skip ∧ (inList inApiWord) x.Words ∧ inStr x.Comment
theorem co_32 : Tryz.prog.cellsOf 32 = 3 := by kernel_rfl
theorem opn_32 : Opn Tryz.prog 32 encApiBlock inApiBlock := by
 intro w H enc fuel cs x h
 obtain ⟨xs,n,_,_,hl,hxl,hf⟩ := DataW.trod_struct Tryz.underlying32 h
 have hxl' : xs.length = 3 := hxl
 obtain ⟨s0,r0,o0⟩ := Opn.field hf 0 4 0 1 rfl co_4 (by omega) opn_4
 obtain ⟨s1,r1,o1⟩ := Opn.field hf 1 30 1 1 rfl co_30 (by omega) opn_30
 obtain ⟨s2,r2,o2⟩ := Opn.field hf 2 9 2 1 rfl co_9 (by omega) opn_9
 refine ⟨⟨s0,s1,s2⟩,?_,o0,o1,o2⟩
 exact (RelC.cut 0 1 r0 rfl (RelC.cut 1 1 r1 rfl (RelC.cut 2 1 r2 rfl (RelC.nil (n := 3) (by rw [hl,co_32]; exact Nat.le_refl _)))))
theorem opn_39 : Opn Tryz.prog 39 (eList encApiBlock) (inList inApiBlock) := Opn.slice Tryz.underlying39 opn_32 (fun _=>(rfl : _ = 3).trans co_32.symm) (by rw [co_32]; decide)
def inApiPos (x : ApiPos) : Prop := (inInt .i64) x.X ∧ (inInt .i64) x.Y ∧ (inInt .i64) x.Z
theorem co_27 : Tryz.prog.cellsOf 27 = 3 := by kernel_rfl
theorem opn_27 : Opn Tryz.prog 27 encApiPos inApiPos := by
 intro w H enc fuel cs x h
 obtain ⟨xs,n,_,_,hl,hxl,hf⟩ := DataW.trod_struct Tryz.underlying27 h
 have hxl' : xs.length = 3 := hxl
 obtain ⟨s0,r0,o0⟩ := Opn.field hf 0 2 0 1 rfl co_2 (by omega) opn_2
 obtain ⟨s1,r1,o1⟩ := Opn.field hf 1 2 1 1 rfl co_2 (by omega) opn_2
 obtain ⟨s2,r2,o2⟩ := Opn.field hf 2 2 2 1 rfl co_2 (by omega) opn_2
 refine ⟨⟨s0,s1,s2⟩,?_,o0,o1,o2⟩
 exact (RelC.cut 0 1 r0 rfl (RelC.cut 1 1 r1 rfl (RelC.cut 2 1 r2 rfl (RelC.nil (n := 3) (by rw [hl,co_27]; exact Nat.le_refl _)))))
def inArr6ApiPos (x : Arr6ApiPos) : Prop := inApiPos x.e0 ∧ inApiPos x.e1 ∧ inApiPos x.e2 ∧ inApiPos x.e3 ∧ inApiPos x.e4 ∧ inApiPos x.e5
theorem co_33 : Tryz.prog.cellsOf 33 = 18 := by kernel_rfl
theorem opn_33 : Opn Tryz.prog 33 encArr6ApiPos inArr6ApiPos := by
 intro w H enc fuel cs x h
 obtain ⟨xs,n,_,_,hl,hxl,hf⟩ := DataW.trod_array Tryz.underlying33 h
 obtain ⟨s0,r0,o0⟩ := Opn.elem hf 0 3 co_27 (by omega) hxl opn_27
 obtain ⟨s1,r1,o1⟩ := Opn.elem hf 1 3 co_27 (by omega) hxl opn_27
 obtain ⟨s2,r2,o2⟩ := Opn.elem hf 2 3 co_27 (by omega) hxl opn_27
 obtain ⟨s3,r3,o3⟩ := Opn.elem hf 3 3 co_27 (by omega) hxl opn_27
 obtain ⟨s4,r4,o4⟩ := Opn.elem hf 4 3 co_27 (by omega) hxl opn_27
 obtain ⟨s5,r5,o5⟩ := Opn.elem hf 5 3 co_27 (by omega) hxl opn_27
 refine ⟨⟨s0,s1,s2,s3,s4,s5⟩,?_,o0,o1,o2,o3,o4,o5⟩
 exact (RelC.cut 0 3 r0 rfl (RelC.cut 3 3 r1 rfl (RelC.cut 6 3 r2 rfl (RelC.cut 9 3 r3 rfl (RelC.cut 12 3 r4 rfl (RelC.cut 15 3 r5 rfl (RelC.nil (n := 18) (by rw [hl,co_33]; exact Nat.le_refl _))))))))
def inR45Length (x : R45Length) : Prop := (inInt .i64) x.Number ∧ (inInt .i64) x.Length
theorem co_94 : Tryz.prog.cellsOf 94 = 2 := by kernel_rfl
theorem opn_94 : Opn Tryz.prog 94 encR45Length inR45Length := by
 intro w H enc fuel cs x h
 obtain ⟨xs,n,_,_,hl,hxl,hf⟩ := DataW.trod_struct Tryz.underlying94 h
 have hxl' : xs.length = 2 := hxl
 obtain ⟨s0,r0,o0⟩ := Opn.field hf 0 2 0 1 rfl co_2 (by omega) opn_2
 obtain ⟨s1,r1,o1⟩ := Opn.field hf 1 2 1 1 rfl co_2 (by omega) opn_2
 refine ⟨⟨s0,s1⟩,?_,o0,o1⟩
 exact (RelC.cut 0 1 r0 rfl (RelC.cut 1 1 r1 rfl (RelC.nil (n := 2) (by rw [hl,co_94]; exact Nat.le_refl _))))
theorem co_34 : Tryz.prog.cellsOf 34 = 1 := by kernel_rfl
theorem opn_34 : Opn Tryz.prog 34 (eList encR45Length) (inList inR45Length) := Opn.slice Tryz.underlying34 opn_94 (fun _=>(rfl : _ = 2).trans co_94.symm) (by rw [co_94]; decide)
def inR45Table (x : R45Table) : Prop := inArr6ApiPos x.Work ∧ (inList inR45Length) x.Lengths
theorem co_36 : Tryz.prog.cellsOf 36 = 19 := by kernel_rfl
theorem opn_36 : Opn Tryz.prog 36 encR45Table inR45Table := by
 intro w H enc fuel cs x h
 obtain ⟨xs,n,_,_,hl,hxl,hf⟩ := DataW.trod_struct Tryz.underlying36 h
 have hxl' : xs.length = 2 := hxl
 obtain ⟨s0,r0,o0⟩ := Opn.field hf 0 33 0 18 rfl co_33 (by omega) opn_33
 obtain ⟨s1,r1,o1⟩ := Opn.field hf 1 34 18 1 rfl co_34 (by omega) opn_34
 refine ⟨⟨s0,s1⟩,?_,o0,o1⟩
 exact (RelC.cut 0 18 r0 rfl (RelC.cut 18 1 r1 rfl (RelC.nil (n := 19) (by rw [hl,co_36]; exact Nat.le_refl _))))
def inL47Setting (x : L47Setting) : Prop := inR45Table x.Table ∧ inApiPos x.From
theorem co_41 : Tryz.prog.cellsOf 41 = 22 := by kernel_rfl
theorem opn_41 : Opn Tryz.prog 41 encL47Setting inL47Setting := by
 intro w H enc fuel cs x h
 obtain ⟨xs,n,_,_,hl,hxl,hf⟩ := DataW.trod_struct Tryz.underlying41 h
 have hxl' : xs.length = 2 := hxl
 obtain ⟨s0,r0,o0⟩ := Opn.field hf 0 36 0 19 rfl co_36 (by omega) opn_36
 obtain ⟨s1,r1,o1⟩ := Opn.field hf 1 27 19 3 rfl co_27 (by omega) opn_27
 refine ⟨⟨s0,s1⟩,?_,o0,o1⟩
 exact (RelC.cut 0 19 r0 rfl (RelC.cut 19 3 r1 rfl (RelC.nil (n := 22) (by rw [hl,co_41]; exact Nat.le_refl _))))
end Go.Proofs.YtopjpenbieojmaaGreatDoor
