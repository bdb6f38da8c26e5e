import Derived.Test.YtipefnighcdgnaaGreatDoorGx
import Derived.Test.YtipefnighcdgnaaGreatDoorTy
import Derived.Test.YtipefnighcdgnaaGreatDoorGo
import Derived.Test.YtipefnighcdgnaaGreatDoorMI
import Derived.Test.YtipefnighcdgnaaGreatDoorMQ
import Derived.Test.YtipefnighcdgnaaGreatDoorMB
namespace Go.Proofs.YtipefnighcdgnaaGreatDoor
open Go.RowKit
open Nat renaming reduceAdd → nA, reduceSub → nS, reduceMul → nM, reduceEqDiff → nE, reduceLeDiff → nL, reduceLT → nT, reduceBEq → nB
open Int renaming reduceLT → iT, reduceToNat → iN, reduceEq → iE
set_option linter.unusedVariables false
set_option linter.unusedSimpArgs false
set_option maxRecDepth 100000
set_option maxHeartbeats 8000000
theorem EMLRound : type_of% (@SE) := @SE
theorem FMLRound : type_of% (@SF) := @SF
def l06_DecimalRound (a0 : R03Surd) : Option Bool := bindO (l06_awake ) fun (y1 : Bool) => if (!y1) = true then some false else bindO (r03_Of a0) fun (y2 : ApiRoot) => bindO (bindO (dc_Nearest y2) fun (y3 : ApiInt) => bindO (r06_Nearest y2) fun (y4 : ApiInt) => bindO (r01_Same y3 y4) fun (y5 : Bool) => if y5 = true then bindO (dc_Down y2) fun (y6 : ApiInt) => bindO (r06_Down y2) fun (y7 : ApiInt) => bindO (r01_Same y6 y7) fun (y8 : Bool) => if y8 = true then bindO (dc_Up y2) fun (y9 : ApiInt) => bindO (r06_Up y2) fun (y10 : ApiInt) => bindO (r01_Same y9 y10) fun (y11 : Bool) => some y11 else some false else some false) fun (v1 : Bool) => some v1
theorem l06_DecimalRound_spec {a0 : R03Surd} {y : Bool} (h : l06_DecimalRound a0 = some y) : Spec gP 3 [.agg [.d (.int .i16 a0.A), .d (.int .i16 a0.B), .d (.int .u16 a0.C), .d (.int .u8 a0.D), .d (.int .u8 a0.E), .d (.int .u8 a0.F)]] (.d (.bool y)) := by
 refine spec_mir Tryz.func3 rfl (by kernel_rfl) (by kernel_rfl) (fun y : Bool => .d (.bool y)) ?_ h
 unfold l06_DecimalRound
 simp only [List.replicate, List.length, nS, nA, Tryz.ntmps3, SV]
 refine .sR fun e h=>?_
 simp only [seval,EMLRound]
 refine mU e (.seqK (.seqK (.bind fun y1 hy1=>.region fun e h=>?_))) h
 simp only [seval,EMLRound]
 refine SpecS.by (l06_awake_spec hy1) (rfl) ?_
 simp only [seval,EMLRound]
 refine mU e (.cond rfl (fun hb3=>?_) (fun hb3=>?_)) h
 refine .sR fun e h=>?_
 simp only [seval,EMLRound]
 refine mU e (.ret fun e h=>?_) h
 cases h
 simp only [seval,FMLRound,Tryz.results3]
 refine .skip (Mir.toK (.seqK (.bind fun y2 hy4=>.region fun e h=>?_)))
 simp only [seval,EMLRound,ag_25,sz_25]
 refine SpecS.by (r03_Of_spec hy4) (by simp only [seval,FMLRound]) ?_
 simp only [seval,EMLRound,zero_33,sz_33]
 refine mU e (.seqK (Mir.joinO (fun v1 : Bool=>([U,U,.d (.bool v1)] ++ us 24)) (fun v1=>⟨[[.d (.int .i16 a0.A),.d (.int .i16 a0.B),.d (.int .u16 a0.C),.d (.int .u8 a0.D),.d (.int .u8 a0.E),.d (.int .u8 a0.F)],[.d (.bool y2.A.Num.Neg),.d (.list (List.map (eInt .u32) y2.A.Num.Limbs)),.d (.bool y2.A.Den.Neg),.d (.list (List.map (eInt .u32) y2.A.Den.Limbs)),.d (.bool y2.B.Num.Neg),.d (.list (List.map (eInt .u32) y2.B.Num.Limbs)),.d (.bool y2.B.Den.Neg),.d (.list (List.map (eInt .u32) y2.B.Den.Limbs)),.d (.bool y2.C.Num.Neg),.d (.list (List.map (eInt .u32) y2.C.Num.Limbs)),.d (.bool y2.C.Den.Neg),.d (.list (List.map (eInt .u32) y2.C.Den.Limbs))]],[]⟩) (fun _=>rfl) ?_ ?_)) h
 refine .bind fun y3 hy5=>.bind fun y4 hy6=>.bind fun y5 hy7=>.ite (fun hb8=>?_) (fun hb8=>?_)
 refine .bind fun y6 hy9=>.bind fun y7 hy10=>.bind fun y8 hy11=>.ite (fun hb12=>?_) (fun hb12=>?_)
 refine .bind fun y9 hy13=>.bind fun y10 hy14=>.bind fun y11 hy15=>.regionD [] (by kernel_rfl) fun e h=>?_
 simp only [seval,EMLRound,SB,ag_33,sz_33,hb8,hb12]
 refine Spec.by (dc_Nearest_spec hy5) (by simp only [seval,FMLRound,hb8,hb12]) ?_
 simp only [seval,EMLRound,SB,ag_33,sz_33,hb8,hb12]
 refine Spec.by (r06_Nearest_spec hy6) (by simp only [seval,FMLRound,hb8,hb12]) ?_
 simp only [seval,EMLRound,SB,hb8,hb12]
 refine Spec.by (r01_Same_spec hy7) (by simp only [seval,FMLRound,hb8,hb12]) ?_
 simp only [seval,EMLRound,SB,ag_33,sz_33,hb8,hb12]
 refine Spec.by (dc_Down_spec hy9) (by simp only [seval,FMLRound,hb8,hb12]) ?_
 simp only [seval,EMLRound,SB,ag_33,sz_33,hb8,hb12]
 refine Spec.by (r06_Down_spec hy10) (by simp only [seval,FMLRound,hb8,hb12]) ?_
 simp only [seval,EMLRound,SB,hb8,hb12]
 refine Spec.by (r01_Same_spec hy11) (by simp only [seval,FMLRound,hb8,hb12]) ?_
 simp only [seval,EMLRound,SB,ag_33,sz_33,hb8,hb12]
 refine Spec.by (dc_Up_spec hy13) (by simp only [seval,FMLRound,hb8,hb12]) ?_
 simp only [seval,EMLRound,SB,ag_33,sz_33,hb8,hb12]
 refine Spec.by (r06_Up_spec hy14) (by simp only [seval,FMLRound,hb8,hb12]) ?_
 simp only [seval,EMLRound,SB,hb8,hb12]
 refine Spec.by (r01_Same_spec hy15) (by simp only [seval,FMLRound,hb8,hb12]) ?_
 simp only [seval,EMLRound,SB,hb8,hb12]
 cases h
 simp only [seval,FMLRound,hb8,hb12]
 refine .regionD [] (by kernel_rfl) fun e h=>?_
 simp only [seval,EMLRound,SB,ag_33,sz_33,hb8,hb12]
 refine Spec.by (dc_Nearest_spec hy5) (by simp only [seval,FMLRound,hb8,hb12]) ?_
 simp only [seval,EMLRound,SB,ag_33,sz_33,hb8,hb12]
 refine Spec.by (r06_Nearest_spec hy6) (by simp only [seval,FMLRound,hb8,hb12]) ?_
 simp only [seval,EMLRound,SB,hb8,hb12]
 refine Spec.by (r01_Same_spec hy7) (by simp only [seval,FMLRound,hb8,hb12]) ?_
 simp only [seval,EMLRound,SB,ag_33,sz_33,hb8,hb12]
 refine Spec.by (dc_Down_spec hy9) (by simp only [seval,FMLRound,hb8,hb12]) ?_
 simp only [seval,EMLRound,SB,ag_33,sz_33,hb8,hb12]
 refine Spec.by (r06_Down_spec hy10) (by simp only [seval,FMLRound,hb8,hb12]) ?_
 simp only [seval,EMLRound,SB,hb8,hb12]
 refine Spec.by (r01_Same_spec hy11) (by simp only [seval,FMLRound,hb8,hb12]) ?_
 simp only [seval,EMLRound,SB,hb8,hb12]
 cases h
 simp only [seval,FMLRound,hb8,hb12]
 refine .regionD [] (by kernel_rfl) fun e h=>?_
 simp only [seval,EMLRound,SB,ag_33,sz_33,hb8]
 refine Spec.by (dc_Nearest_spec hy5) (by simp only [seval,FMLRound,hb8]) ?_
 simp only [seval,EMLRound,SB,ag_33,sz_33,hb8]
 refine Spec.by (r06_Nearest_spec hy6) (by simp only [seval,FMLRound,hb8]) ?_
 simp only [seval,EMLRound,SB,hb8]
 refine Spec.by (r01_Same_spec hy7) (by simp only [seval,FMLRound,hb8]) ?_
 simp only [seval,EMLRound,SB,hb8]
 cases h
 simp only [seval,FMLRound,hb8]
 intro v1
 refine Mir.toK (.ret fun e h=>?_)
 cases h
 simp only [seval,FMLRound,Tryz.results3]
theorem co_22 : Tryz.prog.cellsOf 22 = 1 := by kernel_rfl
theorem opn_22 : Opn Tryz.prog 22 (eInt .i16) (inInt .i16) := Opn.int Tryz.underlying22
theorem co_23 : Tryz.prog.cellsOf 23 = 1 := by kernel_rfl
theorem opn_23 : Opn Tryz.prog 23 (eInt .u16) (inInt .u16) := Opn.int Tryz.underlying23
theorem co_5 : Tryz.prog.cellsOf 5 = 1 := by kernel_rfl
theorem opn_5 : Opn Tryz.prog 5 (eInt .u8) (inInt .u8) := Opn.int Tryz.underlying5
def inR03Surd (x : R03Surd) : Prop := (inInt .i16) x.A ∧ (inInt .i16) x.B ∧ (inInt .u16) x.C ∧ (inInt .u8) x.D ∧ (inInt .u8) x.E ∧ (inInt .u8) x.F
theorem co_25 : Tryz.prog.cellsOf 25 = 6 := by kernel_rfl
theorem opn_25 : Opn Tryz.prog 25 encR03Surd inR03Surd := by
 intro w H enc fuel cs x h
 obtain ⟨xs, n, _, _, hl, hxl, hf⟩ := DataW.trod_struct Tryz.underlying25 h
 have hxl' : xs.length = 6 := hxl
 obtain ⟨s0, r0, o0⟩ := Opn.field hf 0 22 0 1 rfl co_22 (by omega) opn_22
 obtain ⟨s1, r1, o1⟩ := Opn.field hf 1 22 1 1 rfl co_22 (by omega) opn_22
 obtain ⟨s2, r2, o2⟩ := Opn.field hf 2 23 2 1 rfl co_23 (by omega) opn_23
 obtain ⟨s3, r3, o3⟩ := Opn.field hf 3 5 3 1 rfl co_5 (by omega) opn_5
 obtain ⟨s4, r4, o4⟩ := Opn.field hf 4 5 4 1 rfl co_5 (by omega) opn_5
 obtain ⟨s5, r5, o5⟩ := Opn.field hf 5 5 5 1 rfl co_5 (by omega) opn_5
 refine ⟨⟨s0, s1, s2, s3, s4, s5⟩, ?_, o0, o1, o2, o3, o4, o5⟩
 exact (RelC.cut 0 1 r0 rfl (RelC.cut 1 1 r1 rfl (RelC.cut 2 1 r2 rfl (RelC.cut 3 1 r3 rfl (RelC.cut 4 1 r4 rfl (RelC.cut 5 1 r5 rfl (RelC.nil (n := 6) (by rw [hl, co_25]; exact Nat.le_refl _))))))))
end Go.Proofs.YtipefnighcdgnaaGreatDoor
