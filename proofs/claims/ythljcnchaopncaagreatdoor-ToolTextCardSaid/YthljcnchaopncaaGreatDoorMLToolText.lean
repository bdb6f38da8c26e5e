import Derived.Test.YthljcnchaopncaaGreatDoorGx
import Derived.Test.YthljcnchaopncaaGreatDoorTy
import Derived.Test.YthljcnchaopncaaGreatDoorGo
import Derived.Test.YthljcnchaopncaaGreatDoorMI
import Derived.Test.YthljcnchaopncaaGreatDoorMQ
import Derived.Test.YthljcnchaopncaaGreatDoorMB
import Derived.Test.YthljcnchaopncaaGreatDoorMT
import Derived.Test.YthljcnchaopncaaGreatDoorMX
import Derived.Test.YthljcnchaopncaaGreatDoorMK
namespace Go.Proofs.YthljcnchaopncaaGreatDoor
open Go.RowKit
open Nat renaming reduceAdd → nA,reduceSub → nS,reduceMul → nM,reduceEqDiff → nE,reduceLeDiff → nL,reduceLT → nT,reduceBEq → nB
open Int renaming reduceLT → iT,reduceToNat → iN,reduceEq → iE
set_option linter.unusedVariables false
set_option linter.unusedSimpArgs false
set_option maxRecDepth 100000
set_option maxHeartbeats 8000000
theorem EMLToolText : type_of% (And.intro @SE <| @ENMK) := And.intro @SE <| @ENMK
theorem FMLToolText : type_of% (And.intro @SF <| @ENMK) := And.intro @SF <| @ENMK
def slices_Clone_api_Tool_api_Tool (a0 : List ApiTool) : Option (List ApiTool) := guardO (okLen a0.length) (some a0)
theorem slices_Clone_api_Tool_api_Tool_n {c0 : Nat} {y : List ApiTool} (h : (some []) = some y) : Spec gP 18 [.d (.other (.slice none 0 c0))] (.d (.list (List.map encApiTool y))) := by
 refine spec_mir Tryz.func18 rfl (by kernel_rfl) (by kernel_rfl) (fun y : List ApiTool=>.d (.list (List.map encApiTool y))) ?_ h
 simp only [List.replicate,List.length,nS,nA,Tryz.ntmps18,SV]
 refine .sR fun e h=>?_
 simp only [seval,EMLToolText]
 refine mU e (.seqK (.sR fun e h=>?_)) h
 simp only [seval,EMLToolText,und_28]
 refine mU e (.condT rfl (.sR fun e h=>?_)) h
 simp only [seval,EMLToolText]
 refine mU e (.ret fun e h=>?_) h
 cases h
 simp only [seval,FMLToolText,Tryz.results18]
theorem slices_Clone_api_Tool_api_Tool_o {p0 : Addr} {c0 : Nat} {y : List ApiTool} (h : (some []) = some y) : Spec gP 18 [.d (.other (.slice (some p0) 0 c0))] (.d (.list (List.map encApiTool y))) := by
 refine spec_mir Tryz.func18 rfl (by kernel_rfl) (by kernel_rfl) (fun y : List ApiTool=>.d (.list (List.map encApiTool y))) ?_ h
 simp only [List.replicate,List.length,nS,nA,Tryz.ntmps18,SV]
 refine .sR fun e h=>?_
 simp only [seval,EMLToolText]
 refine mU e (.seqK (.sR fun e h=>?_)) h
 simp only [seval,EMLToolText,und_28]
 refine mU e (.condF rfl (.skip (Mir.toK (.sR fun e h=>?_)))) h
 simp only [seval,EMLToolText,und_28,sz_23,zero_23,(oL 0),app_28,al_ApiTool,List.all_cons,List.all_nil]
 refine mU e (.ret fun e h=>?_) h
 cases h
 simp only [seval,FMLToolText,Tryz.results18]
theorem slices_Clone_api_Tool_api_Tool_c {x0 : ApiTool} {l0 : List ApiTool} {y : List ApiTool} (h : (guardO (okLen ((x0 :: l0).length)) (   some (x0 :: l0))) = some y) : Spec gP 18 [.d (.list (List.map encApiTool (x0 :: l0)))] (.d (.list (List.map encApiTool y))) := by
 refine spec_mir Tryz.func18 rfl (by kernel_rfl) (by kernel_rfl) (fun y : List ApiTool=>.d (.list (List.map encApiTool y))) ?_ h
 simp only [List.replicate,List.length,nS,nA,Tryz.ntmps18,SV]
 refine .sR fun e h=>?_
 simp only [seval,EMLToolText]
 refine mU e (.seqK (.sR fun e h=>?_)) h
 simp only [seval,EMLToolText,und_28]
 refine mU e (.condF rfl (.skip (Mir.toK (.seqK (.guard fun q1=>.region fun e h=>?_))))) h
 simp only [seval,EMLToolText,und_28,sz_23,zero_23,(oL 0),app_28,al_ApiTool,q1]
 refine mU e (.ret fun e h=>?_) h
 cases h
 simp only [seval,FMLToolText,Tryz.results18]
theorem slices_Clone_api_Tool_api_Tool_spec {a0 : List ApiTool} {y : List ApiTool} (h : slices_Clone_api_Tool_api_Tool a0 = some y) : Spec gP 18 [.d (.list (List.map encApiTool a0))] (.d (.list (List.map encApiTool y))) := by
 obtain ⟨hl,h⟩ := guardO_some h
 cases h
 cases a0 with
 | nil =>
  refine Spec.nilcase fun A c=>?_
  cases A with
  | none=>exact slices_Clone_api_Tool_api_Tool_n rfl
  | some p=>exact slices_Clone_api_Tool_api_Tool_o rfl
 | cons x l=>exact slices_Clone_api_Tool_api_Tool_c (by simp only [guardO,hl])
def l27_ToolText (a0 : (List ApiTool)) : Option Bool := bindO (bindO (l27_awake ) fun (y1 : Bool)=>if y1 = true then bindO (l27_few a0) fun (y2 : Bool)=>if y2 = true then bindO (r27_Magazine a0) fun (y3 : Int)=>some (y3 != 0) else some true else some true) fun (v1 : Bool)=>if v1 = true then bindO (l27_awake ) fun (y4 : Bool)=>some y4 else bindO (slices_Clone_api_Tool_api_Tool a0) fun (y5 : (List ApiTool))=>bindO (to_Format y5) fun (y6 : (List UInt8) × Int)=>bindO (to_Parse y6.1) fun (y7 : (List ApiTool) × Int × Int)=>bindO (if (y6.2 == 0) = true then if (y7.2.2 == 0) = true then if (y7.2.1 == 0) = true then bindO (to_Equal a0 y7.1) fun (y8 : Bool)=>if y8 = true then bindO (r27_Equal a0 y7.1) fun (y9 : Bool)=>some y9 else some false else some false else some false else some false) fun (v2 : Bool)=>some v2
theorem l27_ToolText_spec {a0 : (List ApiTool)} {y : Bool} (h : l27_ToolText a0 = some y) : Spec gP 7 [.d (.list (List.map encApiTool a0))] (.d (.bool y)) := by
 refine spec_mir Tryz.func7 rfl (by kernel_rfl) (by kernel_rfl) (fun y : Bool=>.d (.bool y)) ?_ h
 unfold l27_ToolText
 simp only [List.replicate,List.length,nS,nA,Tryz.ntmps7,SV]
 refine .sR fun e h=>?_
 simp only [seval,EMLToolText]
 refine mU e (.seqK (.seqK (Mir.joinO (fun v1 : Bool=>([.d (.list (List.map encApiTool a0)),U,U,U,U,U,U,U,U,U,U,U,U,U,U,U,U,U,U,.d (.bool v1)] ++ us 33)) (fun v1=>⟨[],[]⟩) (fun _=>rfl) ?_ ?_))) h
 refine .bind fun y1 hy1=>.ite (fun hb2=>?_) (fun hb2=>?_)
 refine .bind fun y2 hy3=>.ite (fun hb4=>?_) (fun hb4=>?_)
 refine .bind fun y3 hy5=>.region fun e h=>?_
 simp only [seval,EMLToolText,hb2,hb4]
 refine SpecS.by (l27_awake_spec hy1) (rfl) ?_
 simp only [seval,EMLToolText,hb2,hb4]
 refine SpecS.by (l27_few_spec hy3) (by simp only [seval,FMLToolText,hb2,hb4]) ?_
 simp only [seval,EMLToolText,hb2,hb4]
 refine SpecS.by (r27_Magazine_spec hy5) (by simp only [seval,FMLToolText,hb2,hb4]) ?_
 simp only [seval,EMLToolText,hb2,hb4]
 cases h
 simp only [seval,FMLToolText,hb2,hb4]
 refine .region fun e h=>?_
 simp only [seval,EMLToolText,hb2,hb4]
 refine SpecS.by (l27_awake_spec hy1) (rfl) ?_
 simp only [seval,EMLToolText,hb2,hb4]
 refine SpecS.by (l27_few_spec hy3) (by simp only [seval,FMLToolText,hb2,hb4]) ?_
 simp only [seval,EMLToolText,hb2,hb4]
 cases h
 simp only [seval,FMLToolText,hb2,hb4]
 refine .region fun e h=>?_
 simp only [seval,EMLToolText,hb2]
 refine SpecS.by (l27_awake_spec hy1) (rfl) ?_
 simp only [seval,EMLToolText,hb2]
 cases h
 simp only [seval,FMLToolText,hb2]
 intro v1
 refine Mir.toK (.cond rfl (fun hb8=>?_) (fun hb8=>?_))
 refine .seqK (.bind fun y4 hy9=>.region fun e h=>?_)
 simp only [seval,EMLToolText]
 refine SpecS.by (l27_awake_spec hy9) (rfl) ?_
 simp only [seval,EMLToolText]
 refine mU e (.ret fun e h=>?_) h
 cases h
 simp only [seval,FMLToolText,Tryz.results7]
 refine .skip (Mir.toK (.seqK (.bind fun y5 hy10=>.bind fun y6 hy11=>.region fun e h=>?_)))
 simp only [seval,EMLToolText]
 refine SpecS.by (slices_Clone_api_Tool_api_Tool_spec hy10) (by simp only [seval,FMLToolText]) ?_
 simp only [seval,EMLToolText]
 refine SpecS.by (to_Format_spec hy11) (by simp only [seval,FMLToolText]) ?_
 simp only [seval,EMLToolText]
 refine mU e (.seqK (.bind fun y7 hy12=>.region fun e h=>?_)) h
 simp only [seval,EMLToolText]
 refine SpecS.by (to_Parse_spec hy12) (by simp only [seval,FMLToolText]) ?_
 simp only [seval,EMLToolText]
 refine mU e (.seqK (Mir.joinO (fun v2 : Bool=>([U,U,.d (.bool v2)] ++ us 50)) (fun v2=>⟨[],[]⟩) (fun _=>rfl) ?_ ?_)) h
 refine .ite (fun hb13=>?_) (fun hb13=>?_)
 refine .ite (fun hb14=>?_) (fun hb14=>?_)
 refine .ite (fun hb15=>?_) (fun hb15=>?_)
 refine .bind fun y8 hy16=>.ite (fun hb17=>?_) (fun hb17=>?_)
 refine .bind fun y9 hy18=>.region fun e h=>?_
 simp only [seval,EMLToolText,hb13,hb14,hb15,hb17]
 refine SpecS.by (to_Equal_spec hy16) (by simp only [seval,FMLToolText,hb13,hb14,hb15,hb17]) ?_
 simp only [seval,EMLToolText,hb13,hb14,hb15,hb17]
 refine SpecS.by (r27_Equal_spec hy18) (by simp only [seval,FMLToolText,hb13,hb14,hb15,hb17]) ?_
 simp only [seval,EMLToolText,hb13,hb14,hb15,hb17]
 cases h
 simp only [seval,FMLToolText,hb13,hb14,hb15,hb17]
 refine .region fun e h=>?_
 simp only [seval,EMLToolText,hb13,hb14,hb15,hb17]
 refine SpecS.by (to_Equal_spec hy16) (by simp only [seval,FMLToolText,hb13,hb14,hb15,hb17]) ?_
 simp only [seval,EMLToolText,hb13,hb14,hb15,hb17]
 cases h
 simp only [seval,FMLToolText,hb13,hb14,hb15,hb17]
 refine .region fun e h=>?_
 simp only [seval,EMLToolText,hb13,hb14,hb15]
 cases h
 simp only [seval,FMLToolText,hb13,hb14,hb15]
 refine .region fun e h=>?_
 simp only [seval,EMLToolText,hb13,hb14]
 cases h
 simp only [seval,FMLToolText,hb13,hb14]
 refine .region fun e h=>?_
 simp only [seval,EMLToolText,hb13]
 cases h
 simp only [seval,FMLToolText,hb13]
 intro v2
 refine Mir.toK (.ret fun e h=>?_)
 cases h
 simp only [seval,FMLToolText,Tryz.results7]
theorem co_3 : Tryz.prog.cellsOf 3 = 1 := by kernel_rfl
theorem opn_3 : Opn Tryz.prog 3 (eInt .i64) (inInt .i64) := Opn.int Tryz.underlying3
theorem co_2 : Tryz.prog.cellsOf 2 = 1 := by kernel_rfl
theorem opn_2 : Opn Tryz.prog 2 (eInt .i64) (inInt .i64) := Opn.int Tryz.underlying2
def inApiTool (x : ApiTool) : Prop := (inInt .i64) x.Number ∧ (inInt .i64) x.Kind ∧ (inInt .i64) x.Radius ∧ (inInt .i64) x.Flute ∧ (inInt .i64) x.Holder ∧ (inInt .i64) x.Step ∧ (inInt .i64) x.Feed ∧ (inInt .i64) x.Plunge
theorem co_23 : Tryz.prog.cellsOf 23 = 8 := by kernel_rfl
theorem opn_23 : Opn Tryz.prog 23 encApiTool inApiTool := by
 intro w H enc fuel cs x h
 obtain ⟨xs,n,_,_,hl,hxl,hf⟩ := DataW.trod_struct Tryz.underlying23 h
 have hxl' : xs.length = 8 := hxl
 obtain ⟨s0,r0,o0⟩ := Opn.field hf 0 3 0 1 rfl co_3 (by omega) opn_3
 obtain ⟨s1,r1,o1⟩ := Opn.field hf 1 3 1 1 rfl co_3 (by omega) opn_3
 obtain ⟨s2,r2,o2⟩ := Opn.field hf 2 2 2 1 rfl co_2 (by omega) opn_2
 obtain ⟨s3,r3,o3⟩ := Opn.field hf 3 2 3 1 rfl co_2 (by omega) opn_2
 obtain ⟨s4,r4,o4⟩ := Opn.field hf 4 2 4 1 rfl co_2 (by omega) opn_2
 obtain ⟨s5,r5,o5⟩ := Opn.field hf 5 2 5 1 rfl co_2 (by omega) opn_2
 obtain ⟨s6,r6,o6⟩ := Opn.field hf 6 2 6 1 rfl co_2 (by omega) opn_2
 obtain ⟨s7,r7,o7⟩ := Opn.field hf 7 2 7 1 rfl co_2 (by omega) opn_2
 refine ⟨⟨s0,s1,s2,s3,s4,s5,s6,s7⟩,?_,o0,o1,o2,o3,o4,o5,o6,o7⟩
 exact (RelC.cut 0 1 r0 rfl (RelC.cut 1 1 r1 rfl (RelC.cut 2 1 r2 rfl (RelC.cut 3 1 r3 rfl (RelC.cut 4 1 r4 rfl (RelC.cut 5 1 r5 rfl (RelC.cut 6 1 r6 rfl (RelC.cut 7 1 r7 rfl (RelC.nil (n := 8) (by rw [hl,co_23]; exact Nat.le_refl _))))))))))
theorem opn_28 : Opn Tryz.prog 28 (eList encApiTool) (inList inApiTool) := Opn.slice Tryz.underlying28 opn_23 (fun _=>(rfl : _ = 8).trans co_23.symm) (by rw [co_23]; decide)
end Go.Proofs.YthljcnchaopncaaGreatDoor
