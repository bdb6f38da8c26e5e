import Derived.Test.YtjgngikiglhleaaGreatDoorGx
import Derived.Test.YtjgngikiglhleaaGreatDoorTy
import Derived.Test.YtjgngikiglhleaaGreatDoorGo
import Derived.Test.YtjgngikiglhleaaGreatDoorMB
import Derived.Test.YtjgngikiglhleaaGreatDoorMV
import Derived.Test.YtjgngikiglhleaaGreatDoorMW
import Derived.Test.YtjgngikiglhleaaGreatDoorME
namespace Go.Proofs.YtjgngikiglhleaaGreatDoor
open Go.RowKit
open Nat renaming reduceAdd → nA,reduceSub → nS,reduceMul → nM,reduceEqDiff → nE,reduceLeDiff → nL,reduceLT → nT,reduceBEq → nB
open Int renaming reduceLT → iT,reduceToNat → iN,reduceEq → iE
set_option linter.unusedVariables false
set_option linter.unusedSimpArgs false
set_option maxRecDepth 100000
set_option maxHeartbeats 8000000
structure L46Work where
 Stages : (List ApiStage)
 Start : ApiPos
 deriving DecidableEq
def encL46Work (x : L46Work) : List D := [.list (List.map encApiStage x.Stages),.int .i64 x.Start.X,.int .i64 x.Start.Y,.int .i64 x.Start.Z]
structure R46Options where
 Work : Int
 Compress : Bool
 Numbers : Int
 Fold : Int
 deriving DecidableEq
def encR46Options (x : R46Options) : List D := [.int .i64 x.Work,.bool x.Compress,.int .i64 x.Numbers,.int .i64 x.Fold]
theorem ENMLPostExpand : type_of% (And.intro @encL46Work.eq_1 <| @encR46Options.eq_1) := And.intro @encL46Work.eq_1 <| @encR46Options.eq_1
theorem EMLPostExpand : type_of% (And.intro @SE <| And.intro @ENMLPostExpand <| @ENMB) := And.intro @SE <| And.intro @ENMLPostExpand <| @ENMB
theorem FMLPostExpand : type_of% (And.intro @SF <| And.intro @ENMLPostExpand <| @ENMB) := And.intro @SF <| And.intro @ENMLPostExpand <| @ENMB
def l46_PostExpand (a0 : L46Work) (a1 : R46Options) : Option Bool := bindO (bindO (l46_awake ) fun (y1 : Bool)=>if y1 = true then bindO (r46_Few a0.Stages 30) fun (y2 : Bool)=>some (!y2) else some true) fun (v1 : Bool)=>if v1 = true then bindO (l46_awake ) fun (y3 : Bool)=>some y3 else bindO (po_Blocks a0.Stages a0.Start (PostOptions.mk a1.Work a1.Compress a1.Numbers a1.Fold)) fun (y4 : (List ApiBlock) × Int)=>bindO (po_Blocks a0.Stages a0.Start (PostOptions.mk a1.Work a1.Compress 0 0)) fun (y5 : (List ApiBlock) × Int)=>if (y4.2 != 0) = true then some ((y4.1.length : Int) == 0) else bindO (sp_Split y4.1) fun (y6 : SubprogramProgram × Int)=>bindO (sp_Expand y6.1) fun (y7 : (List ApiBlock) × Int)=>bindO (if (y5.2 == 0) = true then if (y6.2 == 0) = true then if (y7.2 == 0) = true then bindO (r46_Bare y7.1) fun (y8 : (List ApiBlock))=>bindO (r41_Same y8 y5.1) fun (y9 : Bool)=>some y9 else some false else some false else some false) fun (v2 : Bool)=>some v2
theorem l46_PostExpand_spec {a0 : L46Work} {a1 : R46Options} {y : Bool} (h : l46_PostExpand a0 a1 = some y) : Spec gP 3 [.agg [.d (.list (List.map encApiStage a0.Stages)),.d (.int .i64 a0.Start.X),.d (.int .i64 a0.Start.Y),.d (.int .i64 a0.Start.Z)],.agg [.d (.int .i64 a1.Work),.d (.bool a1.Compress),.d (.int .i64 a1.Numbers),.d (.int .i64 a1.Fold)]] (.d (.bool y)) := by
 refine spec_mir Tryz.func3 rfl (by kernel_rfl) (by kernel_rfl) (fun y : Bool=>.d (.bool y)) ?_ h
 unfold l46_PostExpand
 simp only [List.replicate,List.length,nS,nA,Tryz.ntmps3,SV]
 refine .sR fun e h=>?_
 simp only [seval,EMLPostExpand]
 refine mU e (.seqK (.seqK (Mir.joinO (fun v1 : Bool=>([U,U,.ptr 0 0,.ptr 1 0,U,U,U,U,U,U,U,U,U,U,U,U,U,U,U,U,.d (.bool v1)] ++ us 54)) (fun v1=>⟨[[.d (.list (List.map encApiStage a0.Stages)),.d (.int .i64 a0.Start.X),.d (.int .i64 a0.Start.Y),.d (.int .i64 a0.Start.Z)],[.d (.int .i64 a1.Work),.d (.bool a1.Compress),.d (.int .i64 a1.Numbers),.d (.int .i64 a1.Fold)]],[]⟩) (fun _=>rfl) ?_ ?_))) h
 refine .bind fun y1 hy1=>.ite (fun hb2=>?_) (fun hb2=>?_)
 refine .bind fun y2 hy3=>.region fun e h=>?_
 simp only [seval,EMLPostExpand,hb2]
 refine SpecS.by (l46_awake_spec hy1) (rfl) ?_
 simp only [seval,EMLPostExpand,fld_26_0,sz_22,ag_22,hb2]
 refine SpecS.by (r46_Few_spec hy3) (by simp only [seval,FMLPostExpand,hb2]) ?_
 simp only [seval,EMLPostExpand,hb2]
 cases h
 simp only [seval,FMLPostExpand,hb2]
 refine .region fun e h=>?_
 simp only [seval,EMLPostExpand,hb2]
 refine SpecS.by (l46_awake_spec hy1) (rfl) ?_
 simp only [seval,EMLPostExpand,hb2]
 cases h
 simp only [seval,FMLPostExpand,hb2]
 intro v1
 refine Mir.toK (.cond rfl (fun hb6=>?_) (fun hb6=>?_))
 refine .seqK (.bind fun y3 hy7=>.region fun e h=>?_)
 simp only [seval,EMLPostExpand]
 refine SpecS.by (l46_awake_spec hy7) (rfl) ?_
 simp only [seval,EMLPostExpand]
 refine mU e (.ret fun e h=>?_) h
 cases h
 simp only [seval,FMLPostExpand,Tryz.results3]
 refine .skip (Mir.toK (.seqK (.bind fun y4 hy8=>.region fun e h=>?_)))
 simp only [seval,EMLPostExpand,fld_26_0,sz_22,ag_22,fld_26_1,sz_24,ag_24,ag_28,sz_28]
 refine SpecS.by (po_Blocks_spec hy8) (by simp only [seval,FMLPostExpand]) ?_
 simp only [seval,EMLPostExpand]
 refine mU e (.seqK (.bind fun y5 hy9=>.region fun e h=>?_)) h
 simp only [seval,EMLPostExpand,fld_26_0,sz_22,ag_22,fld_26_1,sz_24,ag_24,fld_28_0,sz_2,ag_2,fld_28_1,sz_4,ag_4,zero_35,pl_35]
 refine SpecS.by (po_Blocks_spec hy9) (by simp only [seval,FMLPostExpand]) ?_
 simp only [seval,EMLPostExpand]
 refine mU e (.seqK (.sR fun e h=>?_)) h
 simp only [seval,EMLPostExpand]
 refine mU e (.cond rfl (fun hb11=>?_) (fun hb11=>?_)) h
 refine .sR fun e h=>?_
 simp only [seval,EMLPostExpand,und_31]
 refine mU e (.ret fun e h=>?_) h
 cases h
 simp only [seval,FMLPostExpand,Tryz.results3]
 refine .skip (Mir.toK (.seqK (.bind fun y6 hy12=>.region fun e h=>?_)))
 simp only [seval,EMLPostExpand]
 refine SpecS.by (sp_Split_spec hy12) (by simp only [seval,FMLPostExpand]) ?_
 simp only [seval,EMLPostExpand,zero_38,sz_38]
 refine mU e (.seqK (.bind fun y7 hy13=>.region fun e h=>?_)) h
 simp only [seval,EMLPostExpand,ag_38,sz_38]
 refine SpecS.by (sp_Expand_spec hy13) (by simp only [seval,FMLPostExpand]) ?_
 simp only [seval,EMLPostExpand]
 refine mU e (.seqK (Mir.joinO (fun v2 : Bool=>([U,U,U,U,.d (.bool v2)] ++ us 70)) (fun v2=>⟨[[.d (.list (List.map encApiStage a0.Stages)),.d (.int .i64 a0.Start.X),.d (.int .i64 a0.Start.Y),.d (.int .i64 a0.Start.Z)],[.d (.int .i64 a1.Work),.d (.bool a1.Compress),.d (.int .i64 a1.Numbers),.d (.int .i64 a1.Fold)],[.d (.list (List.map encApiBlock y6.1.Main)),.d (.list (List.map encSubprogramSub y6.1.Subs))]],[]⟩) (fun _=>rfl) ?_ ?_)) h
 refine .ite (fun hb14=>?_) (fun hb14=>?_)
 refine .ite (fun hb15=>?_) (fun hb15=>?_)
 refine .ite (fun hb16=>?_) (fun hb16=>?_)
 refine .bind fun y8 hy17=>.bind fun y9 hy18=>.region fun e h=>?_
 simp only [seval,EMLPostExpand,hb14,hb15,hb16]
 refine SpecS.by (r46_Bare_spec hy17) (by simp only [seval,FMLPostExpand,hb14,hb15,hb16]) ?_
 simp only [seval,EMLPostExpand,hb14,hb15,hb16]
 refine SpecS.by (r41_Same_spec hy18) (by simp only [seval,FMLPostExpand,hb14,hb15,hb16]) ?_
 simp only [seval,EMLPostExpand,hb14,hb15,hb16]
 cases h
 simp only [seval,FMLPostExpand,hb14,hb15,hb16]
 refine .region fun e h=>?_
 simp only [seval,EMLPostExpand,hb14,hb15,hb16]
 cases h
 simp only [seval,FMLPostExpand,hb14,hb15,hb16]
 refine .region fun e h=>?_
 simp only [seval,EMLPostExpand,hb14,hb15]
 cases h
 simp only [seval,FMLPostExpand,hb14,hb15]
 refine .region fun e h=>?_
 simp only [seval,EMLPostExpand,hb14]
 cases h
 simp only [seval,FMLPostExpand,hb14]
 intro v2
 refine Mir.toK (.ret fun e h=>?_)
 cases h
 simp only [seval,FMLPostExpand,Tryz.results3]
theorem co_3 : Tryz.prog.cellsOf 3 = 1 := by kernel_rfl
theorem opn_3 : Opn Tryz.prog 3 (eInt .i64) (inInt .i64) := Opn.int Tryz.underlying3
theorem co_2 : Tryz.prog.cellsOf 2 = 1 := by kernel_rfl
theorem opn_2 : Opn Tryz.prog 2 (eInt .i64) (inInt .i64) := Opn.int Tryz.underlying2
def inApiPos (x : ApiPos) : Prop := (inInt .i64) x.X ∧ (inInt .i64) x.Y ∧ (inInt .i64) x.Z
theorem co_24 : Tryz.prog.cellsOf 24 = 3 := by kernel_rfl
theorem opn_24 : Opn Tryz.prog 24 encApiPos inApiPos := by
 intro w H enc fuel cs x h
 obtain ⟨xs,n,_,_,hl,hxl,hf⟩ := DataW.trod_struct Tryz.underlying24 h
 have hxl' : xs.length = 3 := hxl
 obtain ⟨s0,r0,o0⟩ := Opn.field hf 0 2 0 1 rfl co_2 (by omega) opn_2
 obtain ⟨s1,r1,o1⟩ := Opn.field hf 1 2 1 1 rfl co_2 (by omega) opn_2
 obtain ⟨s2,r2,o2⟩ := Opn.field hf 2 2 2 1 rfl co_2 (by omega) opn_2
 refine ⟨⟨s0,s1,s2⟩,?_,o0,o1,o2⟩
 exact (RelC.cut 0 1 r0 rfl (RelC.cut 1 1 r1 rfl (RelC.cut 2 1 r2 rfl (RelC.nil (n := 3) (by rw [hl,co_24]; exact Nat.le_refl _)))))
def inApiGrid2 (x : ApiGrid2) : Prop := (inInt .i64) x.X ∧ (inInt .i64) x.Y
theorem co_52 : Tryz.prog.cellsOf 52 = 2 := by kernel_rfl
theorem opn_52 : Opn Tryz.prog 52 encApiGrid2 inApiGrid2 := by
 intro w H enc fuel cs x h
 obtain ⟨xs,n,_,_,hl,hxl,hf⟩ := DataW.trod_struct Tryz.underlying52 h
 have hxl' : xs.length = 2 := hxl
 obtain ⟨s0,r0,o0⟩ := Opn.field hf 0 2 0 1 rfl co_2 (by omega) opn_2
 obtain ⟨s1,r1,o1⟩ := Opn.field hf 1 2 1 1 rfl co_2 (by omega) opn_2
 refine ⟨⟨s0,s1⟩,?_,o0,o1⟩
 exact (RelC.cut 0 1 r0 rfl (RelC.cut 1 1 r1 rfl (RelC.nil (n := 2) (by rw [hl,co_52]; exact Nat.le_refl _))))
def inApiMove (x : ApiMove) : Prop := (inInt .i64) x.Kind ∧ inApiPos x.To ∧ inApiGrid2 x.Center ∧ (inInt .i64) x.Rate
theorem co_54 : Tryz.prog.cellsOf 54 = 7 := by kernel_rfl
theorem opn_54 : Opn Tryz.prog 54 encApiMove inApiMove := by
 intro w H enc fuel cs x h
 obtain ⟨xs,n,_,_,hl,hxl,hf⟩ := DataW.trod_struct Tryz.underlying54 h
 have hxl' : xs.length = 4 := hxl
 obtain ⟨s0,r0,o0⟩ := Opn.field hf 0 3 0 1 rfl co_3 (by omega) opn_3
 obtain ⟨s1,r1,o1⟩ := Opn.field hf 1 24 1 3 rfl co_24 (by omega) opn_24
 obtain ⟨s2,r2,o2⟩ := Opn.field hf 2 52 4 2 rfl co_52 (by omega) opn_52
 obtain ⟨s3,r3,o3⟩ := Opn.field hf 3 2 6 1 rfl co_2 (by omega) opn_2
 refine ⟨⟨s0,s1,s2,s3⟩,?_,o0,o1,o2,o3⟩
 exact (RelC.cut 0 1 r0 rfl (RelC.cut 1 3 r1 rfl (RelC.cut 4 2 r2 rfl (RelC.cut 6 1 r3 rfl (RelC.nil (n := 7) (by rw [hl,co_54]; exact Nat.le_refl _))))))
theorem co_58 : Tryz.prog.cellsOf 58 = 1 := by kernel_rfl
theorem opn_58 : Opn Tryz.prog 58 (eList encApiMove) (inList inApiMove) := Opn.slice Tryz.underlying58 opn_54 (fun _=>(rfl : _ = 7).trans co_54.symm) (by rw [co_54]; decide)
def inApiStage (x : ApiStage) : Prop := (inInt .i64) x.Tool ∧ (inList inApiMove) x.Moves
theorem co_60 : Tryz.prog.cellsOf 60 = 2 := by kernel_rfl
theorem opn_60 : Opn Tryz.prog 60 encApiStage inApiStage := by
 intro w H enc fuel cs x h
 obtain ⟨xs,n,_,_,hl,hxl,hf⟩ := DataW.trod_struct Tryz.underlying60 h
 have hxl' : xs.length = 2 := hxl
 obtain ⟨s0,r0,o0⟩ := Opn.field hf 0 3 0 1 rfl co_3 (by omega) opn_3
 obtain ⟨s1,r1,o1⟩ := Opn.field hf 1 58 1 1 rfl co_58 (by omega) opn_58
 refine ⟨⟨s0,s1⟩,?_,o0,o1⟩
 exact (RelC.cut 0 1 r0 rfl (RelC.cut 1 1 r1 rfl (RelC.nil (n := 2) (by rw [hl,co_60]; exact Nat.le_refl _))))
theorem co_22 : Tryz.prog.cellsOf 22 = 1 := by kernel_rfl
theorem opn_22 : Opn Tryz.prog 22 (eList encApiStage) (inList inApiStage) := Opn.slice Tryz.underlying22 opn_60 (fun _=>(rfl : _ = 2).trans co_60.symm) (by rw [co_60]; decide)
def inL46Work (x : L46Work) : Prop := (inList inApiStage) x.Stages ∧ inApiPos x.Start
theorem co_26 : Tryz.prog.cellsOf 26 = 4 := by kernel_rfl
theorem opn_26 : Opn Tryz.prog 26 encL46Work inL46Work := by
 intro w H enc fuel cs x h
 obtain ⟨xs,n,_,_,hl,hxl,hf⟩ := DataW.trod_struct Tryz.underlying26 h
 have hxl' : xs.length = 2 := hxl
 obtain ⟨s0,r0,o0⟩ := Opn.field hf 0 22 0 1 rfl co_22 (by omega) opn_22
 obtain ⟨s1,r1,o1⟩ := Opn.field hf 1 24 1 3 rfl co_24 (by omega) opn_24
 refine ⟨⟨s0,s1⟩,?_,o0,o1⟩
 exact (RelC.cut 0 1 r0 rfl (RelC.cut 1 3 r1 rfl (RelC.nil (n := 4) (by rw [hl,co_26]; exact Nat.le_refl _))))
theorem co_4 : Tryz.prog.cellsOf 4 = 1 := by kernel_rfl
theorem opn_4 : Opn Tryz.prog 4 eBool inBool := Opn.bool Tryz.underlying4
def inR46Options (x : R46Options) : Prop := (inInt .i64) x.Work ∧ inBool x.Compress ∧ (inInt .i64) x.Numbers ∧ (inInt .i64) x.Fold
theorem co_28 : Tryz.prog.cellsOf 28 = 4 := by kernel_rfl
theorem opn_28 : Opn Tryz.prog 28 encR46Options inR46Options := by
 intro w H enc fuel cs x h
 obtain ⟨xs,n,_,_,hl,hxl,hf⟩ := DataW.trod_struct Tryz.underlying28 h
 have hxl' : xs.length = 4 := hxl
 obtain ⟨s0,r0,o0⟩ := Opn.field hf 0 2 0 1 rfl co_2 (by omega) opn_2
 obtain ⟨s1,r1,o1⟩ := Opn.field hf 1 4 1 1 rfl co_4 (by omega) opn_4
 obtain ⟨s2,r2,o2⟩ := Opn.field hf 2 2 2 1 rfl co_2 (by omega) opn_2
 obtain ⟨s3,r3,o3⟩ := Opn.field hf 3 3 3 1 rfl co_3 (by omega) opn_3
 refine ⟨⟨s0,s1,s2,s3⟩,?_,o0,o1,o2,o3⟩
 exact (RelC.cut 0 1 r0 rfl (RelC.cut 1 1 r1 rfl (RelC.cut 2 1 r2 rfl (RelC.cut 3 1 r3 rfl (RelC.nil (n := 4) (by rw [hl,co_28]; exact Nat.le_refl _))))))
end Go.Proofs.YtjgngikiglhleaaGreatDoor
