import Derived.Test.YthljcnchaopncaaGreatDoorGx
import Derived.Test.YthljcnchaopncaaGreatDoorTy
import Derived.Test.YthljcnchaopncaaGreatDoorGo
import Derived.Test.YthljcnchaopncaaGreatDoorMI
import Derived.Test.YthljcnchaopncaaGreatDoorMQ
import Derived.Test.YthljcnchaopncaaGreatDoorMB
import Derived.Test.YthljcnchaopncaaGreatDoorMT
import Derived.Test.YthljcnchaopncaaGreatDoorMX
import Derived.Test.YthljcnchaopncaaGreatDoorMK
namespace Go.Proofs.YthljcnchaopncaaGreatDoor
open Go.RowKit
open Nat renaming reduceAdd → nA,reduceSub → nS,reduceMul → nM,reduceEqDiff → nE,reduceLeDiff → nL,reduceLT → nT,reduceBEq → nB
open Int renaming reduceLT → iT,reduceToNat → iN,reduceEq → iE
set_option linter.unusedVariables false
set_option linter.unusedSimpArgs false
set_option maxRecDepth 100000
set_option maxHeartbeats 8000000
structure Arr2I64 where
 e0 : Int
 e1 : Int
 deriving DecidableEq
def encArr2I64 (x : Arr2I64) : List D := [.int .i64 x.e0,.int .i64 x.e1]
theorem ENMLToolLargest : type_of% (@encArr2I64.eq_1) := @encArr2I64.eq_1
theorem EMLToolLargest : type_of% (And.intro @SE <| And.intro @ENMLToolLargest <| @ENMK) := And.intro @SE <| And.intro @ENMLToolLargest <| @ENMK
theorem FMLToolLargest : type_of% (And.intro @SF <| And.intro @ENMLToolLargest <| @ENMK) := And.intro @SF <| And.intro @ENMLToolLargest <| @ENMK
def slices_Clone_api_Tool_api_Tool (a0 : List ApiTool) : Option (List ApiTool) := guardO (okLen a0.length) (some a0)
theorem slices_Clone_api_Tool_api_Tool_n {c0 : Nat} {y : List ApiTool} (h : (some []) = some y) : Spec gP 18 [.d (.other (.slice none 0 c0))] (.d (.list (List.map encApiTool y))) := by
 refine spec_mir Tryz.func18 rfl (by kernel_rfl) (by kernel_rfl) (fun y : List ApiTool=>.d (.list (List.map encApiTool y))) ?_ h
 simp only [List.replicate,List.length,nS,nA,Tryz.ntmps18,SV]
 refine .sR fun e h=>?_
 simp only [seval,EMLToolLargest]
 refine mU e (.seqK (.sR fun e h=>?_)) h
 simp only [seval,EMLToolLargest,und_28]
 refine mU e (.condT rfl (.sR fun e h=>?_)) h
 simp only [seval,EMLToolLargest]
 refine mU e (.ret fun e h=>?_) h
 cases h
 simp only [seval,FMLToolLargest,Tryz.results18]
theorem slices_Clone_api_Tool_api_Tool_o {p0 : Addr} {c0 : Nat} {y : List ApiTool} (h : (some []) = some y) : Spec gP 18 [.d (.other (.slice (some p0) 0 c0))] (.d (.list (List.map encApiTool y))) := by
 refine spec_mir Tryz.func18 rfl (by kernel_rfl) (by kernel_rfl) (fun y : List ApiTool=>.d (.list (List.map encApiTool y))) ?_ h
 simp only [List.replicate,List.length,nS,nA,Tryz.ntmps18,SV]
 refine .sR fun e h=>?_
 simp only [seval,EMLToolLargest]
 refine mU e (.seqK (.sR fun e h=>?_)) h
 simp only [seval,EMLToolLargest,und_28]
 refine mU e (.condF rfl (.skip (Mir.toK (.sR fun e h=>?_)))) h
 simp only [seval,EMLToolLargest,und_28,sz_23,zero_23,(oL 0),app_28,al_ApiTool,List.all_cons,List.all_nil]
 refine mU e (.ret fun e h=>?_) h
 cases h
 simp only [seval,FMLToolLargest,Tryz.results18]
theorem slices_Clone_api_Tool_api_Tool_c {x0 : ApiTool} {l0 : List ApiTool} {y : List ApiTool} (h : (guardO (okLen ((x0 :: l0).length)) (   some (x0 :: l0))) = some y) : Spec gP 18 [.d (.list (List.map encApiTool (x0 :: l0)))] (.d (.list (List.map encApiTool y))) := by
 refine spec_mir Tryz.func18 rfl (by kernel_rfl) (by kernel_rfl) (fun y : List ApiTool=>.d (.list (List.map encApiTool y))) ?_ h
 simp only [List.replicate,List.length,nS,nA,Tryz.ntmps18,SV]
 refine .sR fun e h=>?_
 simp only [seval,EMLToolLargest]
 refine mU e (.seqK (.sR fun e h=>?_)) h
 simp only [seval,EMLToolLargest,und_28]
 refine mU e (.condF rfl (.skip (Mir.toK (.seqK (.guard fun q1=>.region fun e h=>?_))))) h
 simp only [seval,EMLToolLargest,und_28,sz_23,zero_23,(oL 0),app_28,al_ApiTool,q1]
 refine mU e (.ret fun e h=>?_) h
 cases h
 simp only [seval,FMLToolLargest,Tryz.results18]
theorem slices_Clone_api_Tool_api_Tool_spec {a0 : List ApiTool} {y : List ApiTool} (h : slices_Clone_api_Tool_api_Tool a0 = some y) : Spec gP 18 [.d (.list (List.map encApiTool a0))] (.d (.list (List.map encApiTool y))) := by
 obtain ⟨hl,h⟩ := guardO_some h
 cases h
 cases a0 with
 | nil =>
  refine Spec.nilcase fun A c=>?_
  cases A with
  | none=>exact slices_Clone_api_Tool_api_Tool_n rfl
  | some p=>exact slices_Clone_api_Tool_api_Tool_o rfl
 | cons x l=>exact slices_Clone_api_Tool_api_Tool_c (by simp only [guardO,hl])
def l27_ToolLargest (a0 : (List ApiTool)) (a1 : Int) (a2 : Arr2I64) : Option Bool := bindO (bindO (l27_awake ) fun (y1 : Bool)=>if y1 = true then bindO (l27_few a0) fun (y2 : Bool)=>some (!y2) else some true) fun (v1 : Bool)=>if v1 = true then bindO (l27_awake ) fun (y3 : Bool)=>some y3 else bindO (slices_Clone_api_Tool_api_Tool a0) fun (y4 : (List ApiTool))=>bindO (to_Largest y4 a1 a2.e0 a2.e1) fun (y5 : Int × Int)=>bindO (r27_Largest a0 a1 a2.e0 a2.e1) fun (y6 : Int × Int)=>if ((y5.1 != y6.1) || (y5.2 != y6.2)) = true then some false else bindX (guardO (okIdx a0) ( rangeX (fun (i1 : Nat) (e1 : ApiTool) (v2 : Unit)=>bindO (if (e1.Kind == a1) = true then if (decide (e1.Radius ≤ a2.e0)) = true then if (decide (e1.Flute ≥ a2.e1)) = true then if (y5.2 != 0) = true then some true else bindO (gt a0 y5.1) fun (e2 : ApiTool)=>some (decide (e1.Radius > e2.Radius)) else some false else some false else some false) fun (v3 : Bool)=>if v3 = true then some (.ret (.ret false)) else some (.go ())) (fun (v2 : Unit)=>some (.go ())) a0 0 ())) fun (v4 : Unit)=>some true
theorem l27_ToolLargest_spec {a0 : (List ApiTool)} {a1 : Int} {a2 : Arr2I64} {y : Bool} (h : l27_ToolLargest a0 a1 a2 = some y) : Spec gP 8 [.d (.list (List.map encApiTool a0)),.d (.int .i64 a1),.agg [.d (.int .i64 a2.e0),.d (.int .i64 a2.e1)]] (.d (.bool y)) := by
 refine spec_mir Tryz.func8 rfl (by kernel_rfl) (by kernel_rfl) (fun y : Bool=>.d (.bool y)) ?_ h
 unfold l27_ToolLargest
 simp only [List.replicate,List.length,nS,nA,Tryz.ntmps8,SV]
 refine .sR fun e h=>?_
 simp only [seval,EMLToolLargest]
 refine mU e (.seqK (.seqK (Mir.joinO (fun v1 : Bool=>([.d (.list (List.map encApiTool a0)),.d (.int .i64 a1),U,U,U,.ptr 0 0,U,U,U,U,U,U,U,U,U,U,U,U,U,.d (.bool v1)] ++ us 69)) (fun v1=>⟨[[.d (.int .i64 a2.e0),.d (.int .i64 a2.e1)]],[]⟩) (fun _=>rfl) ?_ ?_))) h
 refine .bind fun y1 hy1=>.ite (fun hb2=>?_) (fun hb2=>?_)
 refine .bind fun y2 hy3=>.region fun e h=>?_
 simp only [seval,EMLToolLargest,hb2]
 refine SpecS.by (l27_awake_spec hy1) (rfl) ?_
 simp only [seval,EMLToolLargest,hb2]
 refine SpecS.by (l27_few_spec hy3) (by simp only [seval,FMLToolLargest,hb2]) ?_
 simp only [seval,EMLToolLargest,hb2]
 cases h
 simp only [seval,FMLToolLargest,hb2]
 refine .region fun e h=>?_
 simp only [seval,EMLToolLargest,hb2]
 refine SpecS.by (l27_awake_spec hy1) (rfl) ?_
 simp only [seval,EMLToolLargest,hb2]
 cases h
 simp only [seval,FMLToolLargest,hb2]
 intro v1
 refine Mir.toK (.cond rfl (fun hb6=>?_) (fun hb6=>?_))
 refine .seqK (.bind fun y3 hy7=>.region fun e h=>?_)
 simp only [seval,EMLToolLargest]
 refine SpecS.by (l27_awake_spec hy7) (rfl) ?_
 simp only [seval,EMLToolLargest]
 refine mU e (.ret fun e h=>?_) h
 cases h
 simp only [seval,FMLToolLargest,Tryz.results8]
 refine .skip (Mir.toK (.seqK (.bind fun y4 hy8=>.bind fun y5 hy9=>.regionD [] (by kernel_rfl) fun e h=>?_)))
 simp only [seval,EMLToolLargest,SB]
 refine Spec.by (slices_Clone_api_Tool_api_Tool_spec hy8) (by simp only [seval,FMLToolLargest]) ?_
 simp only [seval,EMLToolLargest,SB,und_41,sz_2,ag_2]
 refine Spec.by (to_Largest_spec hy9) (by simp only [seval,FMLToolLargest]) ?_
 simp only [seval,EMLToolLargest,SB]
 refine mU e (.seqK (.bind fun y6 hy10=>.region fun e h=>?_)) h
 simp only [seval,EMLToolLargest,und_41,sz_2,ag_2]
 refine SpecS.by (r27_Largest_spec hy10) (by simp only [seval,FMLToolLargest]) ?_
 simp only [seval,EMLToolLargest]
 refine mU e (.seqK (.seqK (.joinV ([.d (.list (List.map encApiTool a0)),.d (.int .i64 a1),U,U,U,.ptr 0 0,U,.d (.int .i64 y5.1),.d (.int .i64 y5.2),U,U,U,U,U,U,U,U,U,U,U,U,U,U,U,U,U,U,U,U,U,U,U,U,U,U,U,U,U,U,U,U,U,U,U,U,U,U,U,U,.d (.bool ((y5.1 != y6.1) || (y5.2 != y6.2)))] ++ us 39) ⟨[[.d (.int .i64 a2.e0),.d (.int .i64 a2.e1)]],[]⟩ rfl ?_ ?_))) h
 refine SWs.region ?_
 rcases Bool.eq_false_or_eq_true (y5.1 != y6.1) with hb11 | hb11
 simp only [seval,EMLToolLargest,SL,PB,hb11]
 simp only [seval,EMLToolLargest,SL,PB,hb11]
 refine Mir.toK (.cond rfl (fun hb13=>?_) (fun hb13=>?_))
 refine .sR fun e h=>?_
 simp only [seval,EMLToolLargest]
 refine mU e (.ret fun e h=>?_) h
 cases h
 simp only [seval,FMLToolLargest,Tryz.results8]
 refine .skip (Mir.toK (.seqK (.sR fun e h=>?_)))
 simp only [seval,EMLToolLargest,und_28]
 refine mU e (Mir.join (fun v4 : Unit=>(us 89)) (fun v4=>⟨[[.d (.int .i64 a2.e0),.d (.int .i64 a2.e1)]],[]⟩) (fun _=>rfl) ?_ ?_) h
 refine .block (.guard fun q1=>Mir.range (fun (i1 : Nat) (v2 : Unit)=>([.d (.list (List.map encApiTool a0)),.d (.int .i64 a1),U,U,U,.ptr 0 0,U,.d (.int .i64 y5.1),.d (.int .i64 y5.2),U,U,U,U,U,U,U,U,U,U,U,U,U,U,U,U,U,U,U,U,U,U,U,U,U,U,U,U,U,U,U,U,U,U,U,U,U,U,U,U,U,.d (.list (List.map encApiTool a0)),.d (.int .i64 (a0.length : Int)),.d (.int .i64 (i1 : Int))] ++ us 36)) (fun i1 v2=>⟨[[.d (.int .i64 a2.e0),.d (.int .i64 a2.e1)]],[]⟩) q1 (fun _ _=>rfl) (by simp only [seval,FMLToolLargest,zNI]) (by simp only [seval,FMLToolLargest,zNI]) ?_ ?_)
 intro i1 e1 v2 q2
 refine .sR fun e h=>?_
 simp only [seval,EMLToolLargest,q2]
 refine mU e (.seqK (.condT rfl (.skip (Mir.toK (.seqK (.block (.sR fun e h=>?_))))))) h
 simp only [seval,EMLToolLargest,und_28,sz_23,q2,Int.toNat_natCast,ag_23,zero_23]
 refine mU e (.seqK (Mir.joinO (fun v3 : Bool=>[.d (.list (List.map encApiTool a0)),.d (.int .i64 a1),U,U,U,.ptr 0 0,U,.d (.int .i64 y5.1),.d (.int .i64 y5.2),U,U,U,U,U,U,U,U,U,U,U,U,U,U,U,U,U,U,U,U,U,U,U,U,U,U,U,U,U,U,U,U,U,U,U,U,U,U,U,U,U,.d (.list (List.map encApiTool a0)),.d (.int .i64 (a0.length : Int)),.d (.int .i64 (i1 : Int)),U,U,U,U,U,U,U,U,U,U,U,U,U,U,U,U,U,U,U,U,U,U,U,U,U,U,U,U,U,U,U,U,U,U,.d (.bool v3),U]) (fun v3=>⟨[[.d (.int .i64 a2.e0),.d (.int .i64 a2.e1)],[.d (.int .i64 e1.Number),.d (.int .i64 e1.Kind),.d (.int .i64 e1.Radius),.d (.int .i64 e1.Flute),.d (.int .i64 e1.Holder),.d (.int .i64 e1.Step),.d (.int .i64 e1.Feed),.d (.int .i64 e1.Plunge)]],[]⟩) (fun _=>rfl) ?_ ?_)) h
 refine .ite (fun h1=>?_) (fun h1=>?_)
 refine .ite (fun h2=>?_) (fun h2=>?_)
 refine .ite (fun h3=>?_) (fun h3=>?_)
 refine .ite (fun h4=>?_) (fun h4=>?_)
 refine .regionD [] (by kernel_rfl) fun e h=>?_
 simp only [seval,EMLToolLargest,SB,fld_23_1,sz_3,ag_3,fld_23_2,sz_2,ag_2,und_41,fld_23_3,h1,h2,h3,h4]
 cases h
 simp only [seval,FMLToolLargest,h1,h2,h3,h4]
 refine .bind fun e2 q3=>?_
 replace q3 := gt_ok q3
 refine .regionD [] (by kernel_rfl) fun e h=>?_
 simp only [seval,EMLToolLargest,SB,fld_23_1,sz_3,ag_3,fld_23_2,sz_2,ag_2,und_41,fld_23_3,und_28,sz_23,q3,h1,h2,h3,h4]
 cases h
 simp only [seval,FMLToolLargest,h1,h2,h3,h4]
 refine .regionD [] (by kernel_rfl) fun e h=>?_
 simp only [seval,EMLToolLargest,SB,fld_23_1,sz_3,ag_3,fld_23_2,sz_2,ag_2,und_41,fld_23_3,h1,h2,h3]
 cases h
 simp only [seval,FMLToolLargest,h1,h2,h3]
 refine .regionD [] (by kernel_rfl) fun e h=>?_
 simp only [seval,EMLToolLargest,SB,fld_23_1,sz_3,ag_3,fld_23_2,sz_2,ag_2,und_41,h1,h2]
 cases h
 simp only [seval,FMLToolLargest,h1,h2]
 refine .regionD [] (by kernel_rfl) fun e h=>?_
 simp only [seval,EMLToolLargest,SB,fld_23_1,sz_3,ag_3,h1]
 cases h
 simp only [seval,FMLToolLargest,h1]
 intro v3
 refine Mir.toK (.cond rfl (fun h5=>?_) (fun h5=>?_))
 refine .sR fun e h=>?_
 simp only [seval,EMLToolLargest]
 refine mU e (.ret fun e h=>?_) h
 cases h
 simp only [seval,FMLToolLargest,Tryz.results8]
 refine .skip (Mir.toB (Mir.toK (.region fun e h=>?_)))
 simp only [seval,EMLToolLargest]
 cases h
 simp only [seval,FMLToolLargest,Tryz.results8,q2]
 intro v2 q4
 refine .sR fun e h=>?_
 simp only [seval,EMLToolLargest,q4]
 refine mU e (.seqK (.condF rfl (.exit fun e h=>?_))) h
 cases h
 simp only [seval,FMLToolLargest,Tryz.results8]
 intro v4
 refine Mir.toK (.sR fun e h=>?_)
 simp only [seval,EMLToolLargest]
 refine mU e (.ret fun e h=>?_) h
 cases h
 simp only [seval,FMLToolLargest,Tryz.results8]
theorem co_3 : Tryz.prog.cellsOf 3 = 1 := by kernel_rfl
theorem opn_3 : Opn Tryz.prog 3 (eInt .i64) (inInt .i64) := Opn.int Tryz.underlying3
theorem co_2 : Tryz.prog.cellsOf 2 = 1 := by kernel_rfl
theorem opn_2 : Opn Tryz.prog 2 (eInt .i64) (inInt .i64) := Opn.int Tryz.underlying2
def inApiTool (x : ApiTool) : Prop := (inInt .i64) x.Number ∧ (inInt .i64) x.Kind ∧ (inInt .i64) x.Radius ∧ (inInt .i64) x.Flute ∧ (inInt .i64) x.Holder ∧ (inInt .i64) x.Step ∧ (inInt .i64) x.Feed ∧ (inInt .i64) x.Plunge
theorem co_23 : Tryz.prog.cellsOf 23 = 8 := by kernel_rfl
theorem opn_23 : Opn Tryz.prog 23 encApiTool inApiTool := by
 intro w H enc fuel cs x h
 obtain ⟨xs,n,_,_,hl,hxl,hf⟩ := DataW.trod_struct Tryz.underlying23 h
 have hxl' : xs.length = 8 := hxl
 obtain ⟨s0,r0,o0⟩ := Opn.field hf 0 3 0 1 rfl co_3 (by omega) opn_3
 obtain ⟨s1,r1,o1⟩ := Opn.field hf 1 3 1 1 rfl co_3 (by omega) opn_3
 obtain ⟨s2,r2,o2⟩ := Opn.field hf 2 2 2 1 rfl co_2 (by omega) opn_2
 obtain ⟨s3,r3,o3⟩ := Opn.field hf 3 2 3 1 rfl co_2 (by omega) opn_2
 obtain ⟨s4,r4,o4⟩ := Opn.field hf 4 2 4 1 rfl co_2 (by omega) opn_2
 obtain ⟨s5,r5,o5⟩ := Opn.field hf 5 2 5 1 rfl co_2 (by omega) opn_2
 obtain ⟨s6,r6,o6⟩ := Opn.field hf 6 2 6 1 rfl co_2 (by omega) opn_2
 obtain ⟨s7,r7,o7⟩ := Opn.field hf 7 2 7 1 rfl co_2 (by omega) opn_2
 refine ⟨⟨s0,s1,s2,s3,s4,s5,s6,s7⟩,?_,o0,o1,o2,o3,o4,o5,o6,o7⟩
 exact (RelC.cut 0 1 r0 rfl (RelC.cut 1 1 r1 rfl (RelC.cut 2 1 r2 rfl (RelC.cut 3 1 r3 rfl (RelC.cut 4 1 r4 rfl (RelC.cut 5 1 r5 rfl (RelC.cut 6 1 r6 rfl (RelC.cut 7 1 r7 rfl (RelC.nil (n := 8) (by rw [hl,co_23]; exact Nat.le_refl _))))))))))
theorem opn_28 : Opn Tryz.prog 28 (eList encApiTool) (inList inApiTool) := Opn.slice Tryz.underlying28 opn_23 (fun _=>(rfl : _ = 8).trans co_23.symm) (by rw [co_23]; decide)
def inArr2I64 (x : Arr2I64) : Prop := (inInt .i64) x.e0 ∧ (inInt .i64) x.e1
theorem co_41 : Tryz.prog.cellsOf 41 = 2 := by kernel_rfl
theorem opn_41 : Opn Tryz.prog 41 encArr2I64 inArr2I64 := by
 intro w H enc fuel cs x h
 obtain ⟨xs,n,_,_,hl,hxl,hf⟩ := DataW.trod_array Tryz.underlying41 h
 obtain ⟨s0,r0,o0⟩ := Opn.elem hf 0 1 co_2 (by omega) hxl opn_2
 obtain ⟨s1,r1,o1⟩ := Opn.elem hf 1 1 co_2 (by omega) hxl opn_2
 refine ⟨⟨s0,s1⟩,?_,o0,o1⟩
 exact (RelC.cut 0 1 r0 rfl (RelC.cut 1 1 r1 rfl (RelC.nil (n := 2) (by rw [hl,co_41]; exact Nat.le_refl _))))
end Go.Proofs.YthljcnchaopncaaGreatDoor
