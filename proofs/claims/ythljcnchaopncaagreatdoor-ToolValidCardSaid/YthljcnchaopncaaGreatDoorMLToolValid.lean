import Derived.Test.YthljcnchaopncaaGreatDoorGx
import Derived.Test.YthljcnchaopncaaGreatDoorTy
import Derived.Test.YthljcnchaopncaaGreatDoorGo
import Derived.Test.YthljcnchaopncaaGreatDoorMI
import Derived.Test.YthljcnchaopncaaGreatDoorMQ
import Derived.Test.YthljcnchaopncaaGreatDoorMB
import Derived.Test.YthljcnchaopncaaGreatDoorMT
import Derived.Test.YthljcnchaopncaaGreatDoorMX
import Derived.Test.YthljcnchaopncaaGreatDoorMK
namespace Go.Proofs.YthljcnchaopncaaGreatDoor
open Go.RowKit
open Nat renaming reduceAdd → nA,reduceSub → nS,reduceMul → nM,reduceEqDiff → nE,reduceLeDiff → nL,reduceLT → nT,reduceBEq → nB
open Int renaming reduceLT → iT,reduceToNat → iN,reduceEq → iE
set_option linter.unusedVariables false
set_option linter.unusedSimpArgs false
set_option maxRecDepth 100000
set_option maxHeartbeats 8000000
theorem EMLToolValid : type_of% (@SE) := @SE
theorem FMLToolValid : type_of% (@SF) := @SF
def l27_ToolValid (a0 : ApiTool) : Option Bool := bindO (bindO (l27_awake ) fun (y1 : Bool)=>if y1 = true then bindO (to_Valid a0) fun (y2 : Int)=>bindO (r27_Valid a0) fun (y3 : Int)=>some (y2 == y3) else some false) fun (v1 : Bool)=>some v1
theorem l27_ToolValid_spec {a0 : ApiTool} {y : Bool} (h : l27_ToolValid a0 = some y) : Spec gP 3 [.agg [.d (.int .i64 a0.Number),.d (.int .i64 a0.Kind),.d (.int .i64 a0.Radius),.d (.int .i64 a0.Flute),.d (.int .i64 a0.Holder),.d (.int .i64 a0.Step),.d (.int .i64 a0.Feed),.d (.int .i64 a0.Plunge)]] (.d (.bool y)) := by
 refine spec_mir Tryz.func3 rfl (by kernel_rfl) (by kernel_rfl) (fun y : Bool=>.d (.bool y)) ?_ h
 unfold l27_ToolValid
 simp only [List.replicate,List.length,nS,nA,Tryz.ntmps3,SV]
 refine .sR fun e h=>?_
 simp only [seval,EMLToolValid]
 refine mU e (.seqK (Mir.joinO (fun v1 : Bool=>([U,U,.d (.bool v1)] ++ us 8)) (fun v1=>⟨[[.d (.int .i64 a0.Number),.d (.int .i64 a0.Kind),.d (.int .i64 a0.Radius),.d (.int .i64 a0.Flute),.d (.int .i64 a0.Holder),.d (.int .i64 a0.Step),.d (.int .i64 a0.Feed),.d (.int .i64 a0.Plunge)]],[]⟩) (fun _=>rfl) ?_ ?_)) h
 refine .bind fun y1 hy1=>.ite (fun hb2=>?_) (fun hb2=>?_)
 refine .bind fun y2 hy3=>.bind fun y3 hy4=>.regionD [] (by kernel_rfl) fun e h=>?_
 simp only [seval,EMLToolValid,SB,hb2]
 refine Spec.by (l27_awake_spec hy1) (rfl) ?_
 simp only [seval,EMLToolValid,SB,ag_23,sz_23,hb2]
 refine Spec.by (to_Valid_spec hy3) (by simp only [seval,FMLToolValid,hb2]) ?_
 simp only [seval,EMLToolValid,SB,ag_23,sz_23,hb2]
 refine Spec.by (r27_Valid_spec hy4) (by simp only [seval,FMLToolValid,hb2]) ?_
 simp only [seval,EMLToolValid,SB,hb2]
 cases h
 simp only [seval,FMLToolValid,hb2]
 refine .regionD [] (by kernel_rfl) fun e h=>?_
 simp only [seval,EMLToolValid,SB,hb2]
 refine Spec.by (l27_awake_spec hy1) (rfl) ?_
 simp only [seval,EMLToolValid,SB,hb2]
 cases h
 simp only [seval,FMLToolValid,hb2]
 intro v1
 refine Mir.toK (.ret fun e h=>?_)
 cases h
 simp only [seval,FMLToolValid,Tryz.results3]
theorem co_3 : Tryz.prog.cellsOf 3 = 1 := by kernel_rfl
theorem opn_3 : Opn Tryz.prog 3 (eInt .i64) (inInt .i64) := Opn.int Tryz.underlying3
theorem co_2 : Tryz.prog.cellsOf 2 = 1 := by kernel_rfl
theorem opn_2 : Opn Tryz.prog 2 (eInt .i64) (inInt .i64) := Opn.int Tryz.underlying2
def inApiTool (x : ApiTool) : Prop := (inInt .i64) x.Number ∧ (inInt .i64) x.Kind ∧ (inInt .i64) x.Radius ∧ (inInt .i64) x.Flute ∧ (inInt .i64) x.Holder ∧ (inInt .i64) x.Step ∧ (inInt .i64) x.Feed ∧ (inInt .i64) x.Plunge
theorem co_23 : Tryz.prog.cellsOf 23 = 8 := by kernel_rfl
theorem opn_23 : Opn Tryz.prog 23 encApiTool inApiTool := by
 intro w H enc fuel cs x h
 obtain ⟨xs,n,_,_,hl,hxl,hf⟩ := DataW.trod_struct Tryz.underlying23 h
 have hxl' : xs.length = 8 := hxl
 obtain ⟨s0,r0,o0⟩ := Opn.field hf 0 3 0 1 rfl co_3 (by omega) opn_3
 obtain ⟨s1,r1,o1⟩ := Opn.field hf 1 3 1 1 rfl co_3 (by omega) opn_3
 obtain ⟨s2,r2,o2⟩ := Opn.field hf 2 2 2 1 rfl co_2 (by omega) opn_2
 obtain ⟨s3,r3,o3⟩ := Opn.field hf 3 2 3 1 rfl co_2 (by omega) opn_2
 obtain ⟨s4,r4,o4⟩ := Opn.field hf 4 2 4 1 rfl co_2 (by omega) opn_2
 obtain ⟨s5,r5,o5⟩ := Opn.field hf 5 2 5 1 rfl co_2 (by omega) opn_2
 obtain ⟨s6,r6,o6⟩ := Opn.field hf 6 2 6 1 rfl co_2 (by omega) opn_2
 obtain ⟨s7,r7,o7⟩ := Opn.field hf 7 2 7 1 rfl co_2 (by omega) opn_2
 refine ⟨⟨s0,s1,s2,s3,s4,s5,s6,s7⟩,?_,o0,o1,o2,o3,o4,o5,o6,o7⟩
 exact (RelC.cut 0 1 r0 rfl (RelC.cut 1 1 r1 rfl (RelC.cut 2 1 r2 rfl (RelC.cut 3 1 r3 rfl (RelC.cut 4 1 r4 rfl (RelC.cut 5 1 r5 rfl (RelC.cut 6 1 r6 rfl (RelC.cut 7 1 r7 rfl (RelC.nil (n := 8) (by rw [hl,co_23]; exact Nat.le_refl _))))))))))
end Go.Proofs.YthljcnchaopncaaGreatDoor
