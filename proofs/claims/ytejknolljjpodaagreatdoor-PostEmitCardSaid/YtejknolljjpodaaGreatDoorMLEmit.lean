import Derived.Test.YtejknolljjpodaaGreatDoorGx
import Derived.Test.YtejknolljjpodaaGreatDoorTy
import Derived.Test.YtejknolljjpodaaGreatDoorGo
import Derived.Test.YtejknolljjpodaaGreatDoorMB
import Derived.Test.YtejknolljjpodaaGreatDoorMV
import Derived.Test.YtejknolljjpodaaGreatDoorMW
import Derived.Test.YtejknolljjpodaaGreatDoorME
namespace Go.Proofs.YtejknolljjpodaaGreatDoor
open Go.RowKit
open Nat renaming reduceAdd → nA, reduceSub → nS, reduceMul → nM, reduceEqDiff → nE, reduceLeDiff → nL, reduceLT → nT, reduceBEq → nB
open Int renaming reduceLT → iT, reduceToNat → iN, reduceEq → iE
set_option linter.unusedVariables false
set_option linter.unusedSimpArgs false
set_option maxRecDepth 100000
set_option maxHeartbeats 8000000
structure L46Work where
 Stages : (List ApiStage)
 Start : ApiPos
 deriving DecidableEq
def encL46Work (x : L46Work) : List D := [.list (List.map encApiStage x.Stages), .int .i64 x.Start.X, .int .i64 x.Start.Y, .int .i64 x.Start.Z]
theorem ENMLEmit : type_of% (@encL46Work.eq_1) := @encL46Work.eq_1
theorem EMLEmit : type_of% (And.intro @SE <| And.intro @ENMLEmit <| @ENMB) := And.intro @SE <| And.intro @ENMLEmit <| @ENMB
theorem FMLEmit : type_of% (And.intro @SF <| And.intro @ENMLEmit <| @ENMB) := And.intro @SF <| And.intro @ENMLEmit <| @ENMB
def l46_PostEmit (a0 : L46Work) (a1 : R46Options) : Option Bool := bindO (bindO (l46_awake ) fun (y1 : Bool) => if y1 = true then bindO (r46_Few a0.Stages 30) fun (y2 : Bool) => some (!y2) else some true) fun (v1 : Bool) => if v1 = true then bindO (l46_awake ) fun (y3 : Bool) => some y3 else bindO (po_Emit a0.Stages a0.Start (PostOptions.mk a1.Work a1.Compress a1.Numbers a1.Fold)) fun (y4 : (List UInt8) × Int) => bindO (r46_Emit a0.Stages a0.Start a1) fun (y5 : (List UInt8) × Int) => if (!(y4.1 == y5.1) || ((y4.2 != y5.2) || (y4.2 != 0))) = true then some ((y4.1 == y5.1) && (y4.2 == y5.2)) else bindO (bk_Program y4.1) fun (y6 : (List ApiBlock) × Int × Int) => bindO (r46_Blocks a0.Stages a0.Start a1) fun (y7 : (List ApiBlock) × Int) => bindO (if (y6.2.2 == 0) = true then bindO (r41_Same y6.1 y7.1) fun (y8 : Bool) => some y8 else some false) fun (v2 : Bool) => some v2
theorem l46_PostEmit_spec {a0 : L46Work} {a1 : R46Options} {y : Bool} (h : l46_PostEmit a0 a1 = some y) : Spec gP 8 [.agg [.d (.list (List.map encApiStage a0.Stages)), .d (.int .i64 a0.Start.X), .d (.int .i64 a0.Start.Y), .d (.int .i64 a0.Start.Z)], .agg [.d (.int .i64 a1.Work), .d (.bool a1.Compress), .d (.int .i64 a1.Numbers), .d (.int .i64 a1.Fold)]] (.d (.bool y)) := by
 refine spec_mir Tryz.func8 rfl (by kernel_rfl) (by kernel_rfl) (fun y : Bool => .d (.bool y)) ?_ h
 unfold l46_PostEmit
 simp only [List.replicate, List.length, nS, nA, Tryz.ntmps8, SV]
 refine .sR fun e h=>?_
 simp only [seval,EMLEmit]
 refine mU e (.seqK (.seqK (Mir.joinO (fun v1 : Bool=>([U,U,.ptr 0 0,.ptr 1 0,U,U,U,U,U,U,U,U,U,U,U,U,U,U,U,U,U,.d (.bool v1)] ++ us 61)) (fun v1=>⟨[[.d (.list (List.map encApiStage a0.Stages)),.d (.int .i64 a0.Start.X),.d (.int .i64 a0.Start.Y),.d (.int .i64 a0.Start.Z)],[.d (.int .i64 a1.Work),.d (.bool a1.Compress),.d (.int .i64 a1.Numbers),.d (.int .i64 a1.Fold)]],[]⟩) (fun _=>rfl) ?_ ?_))) h
 refine .bind fun y1 hy1=>.ite (fun hb2=>?_) (fun hb2=>?_)
 refine .bind fun y2 hy3=>.region fun e h=>?_
 simp only [seval,EMLEmit,hb2]
 refine SpecS.by (l46_awake_spec hy1) (rfl) ?_
 simp only [seval,EMLEmit,fld_49_0,sz_47,ag_47,hb2]
 refine SpecS.by (r46_Few_spec hy3) (by simp only [seval,FMLEmit,hb2]) ?_
 simp only [seval,EMLEmit,hb2]
 cases h
 simp only [seval,FMLEmit,hb2]
 refine .region fun e h=>?_
 simp only [seval,EMLEmit,hb2]
 refine SpecS.by (l46_awake_spec hy1) (rfl) ?_
 simp only [seval,EMLEmit,hb2]
 cases h
 simp only [seval,FMLEmit,hb2]
 intro v1
 refine Mir.toK (.cond rfl (fun hb6=>?_) (fun hb6=>?_))
 refine .seqK (.bind fun y3 hy7=>.region fun e h=>?_)
 simp only [seval,EMLEmit]
 refine SpecS.by (l46_awake_spec hy7) (rfl) ?_
 simp only [seval,EMLEmit]
 refine mU e (.ret fun e h=>?_) h
 cases h
 simp only [seval,FMLEmit,Tryz.results8]
 refine .skip (Mir.toK (.seqK (.bind fun y4 hy8=>.region fun e h=>?_)))
 simp only [seval,EMLEmit,fld_49_0,sz_47,ag_47,fld_49_1,sz_23,ag_23,ag_38,sz_38]
 refine SpecS.by (po_Emit_spec hy8) (by simp only [seval,FMLEmit]) ?_
 simp only [seval,EMLEmit]
 refine mU e (.seqK (.bind fun y5 hy9=>.region fun e h=>?_)) h
 simp only [seval,EMLEmit,fld_49_0,sz_47,ag_47,fld_49_1,sz_23,ag_23,ag_38,sz_38]
 refine SpecS.by (r46_Emit_spec hy9) (by simp only [seval,FMLEmit]) ?_
 simp only [seval,EMLEmit]
 refine mU e (.seqK (.seqK (.joinV ([U,U,.ptr 0 0,.ptr 1 0,U,.d (.str y4.1),.d (.int .i64 y4.2),.d (.str y5.1),.d (.int .i64 y5.2),U,U,U,U,U,U,U,U,U,U,U,U,U,U,U,U,U,U,U,U,U,U,U,U,U,U,U,U,U,U,U,U,U,U,U,U,U,U,U,U,U,U,U,.d (.bool (!(y4.1 == y5.1) || ((y4.2 != y5.2) || (y4.2 != 0))))] ++ us 30) ⟨[[.d (.list (List.map encApiStage a0.Stages)),.d (.int .i64 a0.Start.X),.d (.int .i64 a0.Start.Y),.d (.int .i64 a0.Start.Z)],[.d (.int .i64 a1.Work),.d (.bool a1.Compress),.d (.int .i64 a1.Numbers),.d (.int .i64 a1.Fold)]],[]⟩ rfl ?_ ?_))) h
 refine SWs.region ?_
 rcases Bool.eq_false_or_eq_true (y4.1 == y5.1) with hb10 | hb10
 rcases Bool.eq_false_or_eq_true (y4.2 != y5.2) with hb11 | hb11
 simp only [seval,EMLEmit,SL,PB,hb10,hb11]
 simp only [seval,EMLEmit,SL,PB,hb10,hb11]
 simp only [seval,EMLEmit,SL,PB,hb10]
 refine Mir.toK (.cond rfl (fun hb14=>?_) (fun hb14=>?_))
 refine .seqK (.joinV ([U,U,U,U,.d (.bool ((y4.1 == y5.1) && (y4.2 == y5.2)))] ++ us 78) ⟨[[.d (.list (List.map encApiStage a0.Stages)),.d (.int .i64 a0.Start.X),.d (.int .i64 a0.Start.Y),.d (.int .i64 a0.Start.Z)],[.d (.int .i64 a1.Work),.d (.bool a1.Compress),.d (.int .i64 a1.Numbers),.d (.int .i64 a1.Fold)]],[]⟩ rfl ?_ ?_)
 refine SWs.region ?_
 rcases Bool.eq_false_or_eq_true (y4.1 == y5.1) with hb15 | hb15
 simp only [seval,EMLEmit,SL,PB,hb15]
 simp only [seval,EMLEmit,SL,PB,hb15]
 refine Mir.toK (.ret fun e h=>?_)
 cases h
 simp only [seval,FMLEmit,Tryz.results8]
 refine .skip (Mir.toK (.seqK (.bind fun y6 hy16=>.region fun e h=>?_)))
 simp only [seval,EMLEmit]
 refine SpecS.by (bk_Program_spec hy16) (by simp only [seval,FMLEmit]) ?_
 simp only [seval,EMLEmit]
 refine mU e (.seqK (.bind fun y7 hy17=>.region fun e h=>?_)) h
 simp only [seval,EMLEmit,fld_49_0,sz_47,ag_47,fld_49_1,sz_23,ag_23,ag_38,sz_38]
 refine SpecS.by (r46_Blocks_spec hy17) (by simp only [seval,FMLEmit]) ?_
 simp only [seval,EMLEmit]
 refine mU e (.seqK (Mir.joinO (fun v2 : Bool=>([U,U,U,U,.d (.bool v2)] ++ us 78)) (fun v2=>⟨[[.d (.list (List.map encApiStage a0.Stages)),.d (.int .i64 a0.Start.X),.d (.int .i64 a0.Start.Y),.d (.int .i64 a0.Start.Z)],[.d (.int .i64 a1.Work),.d (.bool a1.Compress),.d (.int .i64 a1.Numbers),.d (.int .i64 a1.Fold)]],[]⟩) (fun _=>rfl) ?_ ?_)) h
 refine .ite (fun hb18=>?_) (fun hb18=>?_)
 refine .bind fun y8 hy19=>.region fun e h=>?_
 simp only [seval,EMLEmit,hb18]
 refine SpecS.by (r41_Same_spec hy19) (by simp only [seval,FMLEmit,hb18]) ?_
 simp only [seval,EMLEmit,hb18]
 cases h
 simp only [seval,FMLEmit,hb18]
 refine .region fun e h=>?_
 simp only [seval,EMLEmit,hb18]
 cases h
 simp only [seval,FMLEmit,hb18]
 intro v2
 refine Mir.toK (.ret fun e h=>?_)
 cases h
 simp only [seval,FMLEmit,Tryz.results8]
theorem co_3 : Tryz.prog.cellsOf 3 = 1 := by kernel_rfl
theorem opn_3 : Opn Tryz.prog 3 (eInt .i64) (inInt .i64) := Opn.int Tryz.underlying3
theorem co_2 : Tryz.prog.cellsOf 2 = 1 := by kernel_rfl
theorem opn_2 : Opn Tryz.prog 2 (eInt .i64) (inInt .i64) := Opn.int Tryz.underlying2
def inApiPos (x : ApiPos) : Prop := (inInt .i64) x.X ∧ (inInt .i64) x.Y ∧ (inInt .i64) x.Z
theorem co_23 : Tryz.prog.cellsOf 23 = 3 := by kernel_rfl
theorem opn_23 : Opn Tryz.prog 23 encApiPos inApiPos := by
 intro w H enc fuel cs x h
 obtain ⟨xs, n, _, _, hl, hxl, hf⟩ := DataW.trod_struct Tryz.underlying23 h
 have hxl' : xs.length = 3 := hxl
 obtain ⟨s0, r0, o0⟩ := Opn.field hf 0 2 0 1 rfl co_2 (by omega) opn_2
 obtain ⟨s1, r1, o1⟩ := Opn.field hf 1 2 1 1 rfl co_2 (by omega) opn_2
 obtain ⟨s2, r2, o2⟩ := Opn.field hf 2 2 2 1 rfl co_2 (by omega) opn_2
 refine ⟨⟨s0, s1, s2⟩, ?_, o0, o1, o2⟩
 exact (RelC.cut 0 1 r0 rfl (RelC.cut 1 1 r1 rfl (RelC.cut 2 1 r2 rfl (RelC.nil (n := 3) (by rw [hl, co_23]; exact Nat.le_refl _)))))
def inApiGrid2 (x : ApiGrid2) : Prop := (inInt .i64) x.X ∧ (inInt .i64) x.Y
theorem co_25 : Tryz.prog.cellsOf 25 = 2 := by kernel_rfl
theorem opn_25 : Opn Tryz.prog 25 encApiGrid2 inApiGrid2 := by
 intro w H enc fuel cs x h
 obtain ⟨xs, n, _, _, hl, hxl, hf⟩ := DataW.trod_struct Tryz.underlying25 h
 have hxl' : xs.length = 2 := hxl
 obtain ⟨s0, r0, o0⟩ := Opn.field hf 0 2 0 1 rfl co_2 (by omega) opn_2
 obtain ⟨s1, r1, o1⟩ := Opn.field hf 1 2 1 1 rfl co_2 (by omega) opn_2
 refine ⟨⟨s0, s1⟩, ?_, o0, o1⟩
 exact (RelC.cut 0 1 r0 rfl (RelC.cut 1 1 r1 rfl (RelC.nil (n := 2) (by rw [hl, co_25]; exact Nat.le_refl _))))
def inApiMove (x : ApiMove) : Prop := (inInt .i64) x.Kind ∧ inApiPos x.To ∧ inApiGrid2 x.Center ∧ (inInt .i64) x.Rate
theorem co_27 : Tryz.prog.cellsOf 27 = 7 := by kernel_rfl
theorem opn_27 : Opn Tryz.prog 27 encApiMove inApiMove := by
 intro w H enc fuel cs x h
 obtain ⟨xs, n, _, _, hl, hxl, hf⟩ := DataW.trod_struct Tryz.underlying27 h
 have hxl' : xs.length = 4 := hxl
 obtain ⟨s0, r0, o0⟩ := Opn.field hf 0 3 0 1 rfl co_3 (by omega) opn_3
 obtain ⟨s1, r1, o1⟩ := Opn.field hf 1 23 1 3 rfl co_23 (by omega) opn_23
 obtain ⟨s2, r2, o2⟩ := Opn.field hf 2 25 4 2 rfl co_25 (by omega) opn_25
 obtain ⟨s3, r3, o3⟩ := Opn.field hf 3 2 6 1 rfl co_2 (by omega) opn_2
 refine ⟨⟨s0, s1, s2, s3⟩, ?_, o0, o1, o2, o3⟩
 exact (RelC.cut 0 1 r0 rfl (RelC.cut 1 3 r1 rfl (RelC.cut 4 2 r2 rfl (RelC.cut 6 1 r3 rfl (RelC.nil (n := 7) (by rw [hl, co_27]; exact Nat.le_refl _))))))
theorem co_81 : Tryz.prog.cellsOf 81 = 1 := by kernel_rfl
theorem opn_81 : Opn Tryz.prog 81 (eList encApiMove) (inList inApiMove) := Opn.slice Tryz.underlying81 opn_27 (fun _ => (rfl : _ = 7).trans co_27.symm) (by rw [co_27]; decide)
def inApiStage (x : ApiStage) : Prop := (inInt .i64) x.Tool ∧ (inList inApiMove) x.Moves
theorem co_83 : Tryz.prog.cellsOf 83 = 2 := by kernel_rfl
theorem opn_83 : Opn Tryz.prog 83 encApiStage inApiStage := by
 intro w H enc fuel cs x h
 obtain ⟨xs, n, _, _, hl, hxl, hf⟩ := DataW.trod_struct Tryz.underlying83 h
 have hxl' : xs.length = 2 := hxl
 obtain ⟨s0, r0, o0⟩ := Opn.field hf 0 3 0 1 rfl co_3 (by omega) opn_3
 obtain ⟨s1, r1, o1⟩ := Opn.field hf 1 81 1 1 rfl co_81 (by omega) opn_81
 refine ⟨⟨s0, s1⟩, ?_, o0, o1⟩
 exact (RelC.cut 0 1 r0 rfl (RelC.cut 1 1 r1 rfl (RelC.nil (n := 2) (by rw [hl, co_83]; exact Nat.le_refl _))))
theorem co_47 : Tryz.prog.cellsOf 47 = 1 := by kernel_rfl
theorem opn_47 : Opn Tryz.prog 47 (eList encApiStage) (inList inApiStage) := Opn.slice Tryz.underlying47 opn_83 (fun _ => (rfl : _ = 2).trans co_83.symm) (by rw [co_83]; decide)
def inL46Work (x : L46Work) : Prop := (inList inApiStage) x.Stages ∧ inApiPos x.Start
theorem co_49 : Tryz.prog.cellsOf 49 = 4 := by kernel_rfl
theorem opn_49 : Opn Tryz.prog 49 encL46Work inL46Work := by
 intro w H enc fuel cs x h
 obtain ⟨xs, n, _, _, hl, hxl, hf⟩ := DataW.trod_struct Tryz.underlying49 h
 have hxl' : xs.length = 2 := hxl
 obtain ⟨s0, r0, o0⟩ := Opn.field hf 0 47 0 1 rfl co_47 (by omega) opn_47
 obtain ⟨s1, r1, o1⟩ := Opn.field hf 1 23 1 3 rfl co_23 (by omega) opn_23
 refine ⟨⟨s0, s1⟩, ?_, o0, o1⟩
 exact (RelC.cut 0 1 r0 rfl (RelC.cut 1 3 r1 rfl (RelC.nil (n := 4) (by rw [hl, co_49]; exact Nat.le_refl _))))
theorem co_4 : Tryz.prog.cellsOf 4 = 1 := by kernel_rfl
theorem opn_4 : Opn Tryz.prog 4 eBool inBool := Opn.bool Tryz.underlying4
def inR46Options (x : R46Options) : Prop := (inInt .i64) x.Work ∧ inBool x.Compress ∧ (inInt .i64) x.Numbers ∧ (inInt .i64) x.Fold
theorem co_38 : Tryz.prog.cellsOf 38 = 4 := by kernel_rfl
theorem opn_38 : Opn Tryz.prog 38 encR46Options inR46Options := by
 intro w H enc fuel cs x h
 obtain ⟨xs, n, _, _, hl, hxl, hf⟩ := DataW.trod_struct Tryz.underlying38 h
 have hxl' : xs.length = 4 := hxl
 obtain ⟨s0, r0, o0⟩ := Opn.field hf 0 2 0 1 rfl co_2 (by omega) opn_2
 obtain ⟨s1, r1, o1⟩ := Opn.field hf 1 4 1 1 rfl co_4 (by omega) opn_4
 obtain ⟨s2, r2, o2⟩ := Opn.field hf 2 2 2 1 rfl co_2 (by omega) opn_2
 obtain ⟨s3, r3, o3⟩ := Opn.field hf 3 3 3 1 rfl co_3 (by omega) opn_3
 refine ⟨⟨s0, s1, s2, s3⟩, ?_, o0, o1, o2, o3⟩
 exact (RelC.cut 0 1 r0 rfl (RelC.cut 1 1 r1 rfl (RelC.cut 2 1 r2 rfl (RelC.cut 3 1 r3 rfl (RelC.nil (n := 4) (by rw [hl, co_38]; exact Nat.le_refl _))))))
end Go.Proofs.YtejknolljjpodaaGreatDoor
