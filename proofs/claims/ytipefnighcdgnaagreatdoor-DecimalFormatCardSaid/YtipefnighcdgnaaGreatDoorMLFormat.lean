import Derived.Test.YtipefnighcdgnaaGreatDoorGx
import Derived.Test.YtipefnighcdgnaaGreatDoorTy
import Derived.Test.YtipefnighcdgnaaGreatDoorGo
import Derived.Test.YtipefnighcdgnaaGreatDoorMI
import Derived.Test.YtipefnighcdgnaaGreatDoorMQ
import Derived.Test.YtipefnighcdgnaaGreatDoorMB
import Derived.Test.YtipefnighcdgnaaGreatDoorMT
namespace Go.Proofs.YtipefnighcdgnaaGreatDoor
open Go.RowKit
open Nat renaming reduceAdd → nA, reduceSub → nS, reduceMul → nM, reduceEqDiff → nE, reduceLeDiff → nL, reduceLT → nT, reduceBEq → nB
open Int renaming reduceLT → iT, reduceToNat → iN, reduceEq → iE
set_option linter.unusedVariables false
set_option linter.unusedSimpArgs false
set_option maxRecDepth 100000
set_option maxHeartbeats 8000000
theorem EMLFormat : type_of% (@SE) := @SE
theorem FMLFormat : type_of% (@SF) := @SF
def l06_DecimalFormat (a0 : ApiRat) (a1 : Int) : Option Bool := bindO (bindO (l06_awake ) fun (y1 : Bool) => if y1 = true then bindO (r02_Small a0 6) fun (y2 : Bool) => some (!y2) else some true) fun (v1 : Bool) => if v1 = true then bindO (l06_awake ) fun (y3 : Bool) => some y3 else bindO (dc_Format a0 a1) fun (y4 : (List UInt8) × Int) => bindO (r06_Format a0 a1) fun (y5 : (List UInt8) × Int) => if (!(y4.1 == y5.1) || ((y4.2 != y5.2) || (y4.2 != 0))) = true then some ((y4.1 == y5.1) && (y4.2 == y5.2)) else bindO (dc_Parse y4.1) fun (y6 : ApiRat × Int) => if (y6.2 != 0) = true then some false else bindO (r02_Sub y6.1 a0) fun (y7 : ApiRat) => bindO (r06_Power a1) fun (y8 : ApiRat) => bindO (r02_Mul y7 y8) fun (y9 : ApiRat) => bindO (r02_Frac 1 2) fun (y10 : ApiRat) => bindO (bindO (r02_Cmp y9 y10) fun (y11 : Int) => if (decide (y11 ≤ 0)) = true then bindO (r02_Neg y9) fun (y12 : ApiRat) => bindO (r02_Cmp y12 y10) fun (y13 : Int) => some (decide (y13 < 0)) else some false) fun (v2 : Bool) => some v2
theorem l06_DecimalFormat_spec {a0 : ApiRat} {a1 : Int} {y : Bool} (h : l06_DecimalFormat a0 a1 = some y) : Spec gP 6 [.agg [.d (.bool a0.Num.Neg), .d (.list (List.map (eInt .u32) a0.Num.Limbs)), .d (.bool a0.Den.Neg), .d (.list (List.map (eInt .u32) a0.Den.Limbs))], .d (.int .i64 a1)] (.d (.bool y)) := by
 refine spec_mir Tryz.func6 rfl (by kernel_rfl) (by kernel_rfl) (fun y : Bool => .d (.bool y)) ?_ h
 unfold l06_DecimalFormat
 simp only [List.replicate, List.length, nS, nA, Tryz.ntmps6, SV]
 refine .sR fun e h=>?_
 simp only [seval,EMLFormat,eInt]
 refine mU e (.seqK (.seqK (Mir.joinO (fun v1 : Bool=>([U,.d (.int .i64 a1),.ptr 0 0,U,U,U,U,U,U,U,U,U,U,U,U,U,U,U,U,.d (.bool v1)] ++ us 58)) (fun v1=>⟨[[.d (.bool a0.Num.Neg),.d (.list (List.map (eInt .u32) a0.Num.Limbs)),.d (.bool a0.Den.Neg),.d (.list (List.map (eInt .u32) a0.Den.Limbs))]],[]⟩) (fun _=>rfl) ?_ ?_))) h
 refine .bind fun y1 hy1=>.ite (fun hb2=>?_) (fun hb2=>?_)
 refine .bind fun y2 hy3=>.region fun e h=>?_
 simp only [seval,EMLFormat,eInt,hb2]
 refine SpecS.by (l06_awake_spec hy1) (rfl) ?_
 simp only [seval,EMLFormat,ag_31,sz_31,eInt,hb2]
 refine SpecS.by (r02_Small_spec hy3) (by simp only [seval,FMLFormat,eInt,hb2]) ?_
 simp only [seval,EMLFormat,eInt,hb2]
 cases h
 simp only [seval,FMLFormat,eInt,hb2]
 refine .region fun e h=>?_
 simp only [seval,EMLFormat,eInt,hb2]
 refine SpecS.by (l06_awake_spec hy1) (rfl) ?_
 simp only [seval,EMLFormat,eInt,hb2]
 cases h
 simp only [seval,FMLFormat,eInt,hb2]
 intro v1
 refine Mir.toK (.cond rfl (fun hb6=>?_) (fun hb6=>?_))
 refine .seqK (.bind fun y3 hy7=>.region fun e h=>?_)
 simp only [seval,EMLFormat,eInt]
 refine SpecS.by (l06_awake_spec hy7) (rfl) ?_
 simp only [seval,EMLFormat,eInt]
 refine mU e (.ret fun e h=>?_) h
 cases h
 simp only [seval,FMLFormat,eInt,Tryz.results6]
 refine .skip (Mir.toK (.seqK (.bind fun y4 hy8=>.region fun e h=>?_)))
 simp only [seval,EMLFormat,ag_31,sz_31,eInt]
 refine SpecS.by (dc_Format_spec hy8) (by simp only [seval,FMLFormat,eInt]) ?_
 simp only [seval,EMLFormat,eInt]
 refine mU e (.seqK (.bind fun y5 hy9=>.region fun e h=>?_)) h
 simp only [seval,EMLFormat,ag_31,sz_31,eInt]
 refine SpecS.by (r06_Format_spec hy9) (by simp only [seval,FMLFormat,eInt]) ?_
 simp only [seval,EMLFormat,eInt]
 refine mU e (.seqK (.seqK (.joinV ([U,.d (.int .i64 a1),.ptr 0 0,U,U,.d (.str y4.1),.d (.int .i64 y4.2),.d (.str y5.1),.d (.int .i64 y5.2),U,U,U,U,U,U,U,U,U,U,U,U,U,U,U,U,U,U,U,U,U,U,U,U,U,U,U,U,U,U,U,U,U,U,U,.d (.bool (!(y4.1 == y5.1) || ((y4.2 != y5.2) || (y4.2 != 0))))] ++ us 33) ⟨[[.d (.bool a0.Num.Neg),.d (.list (List.map (eInt .u32) a0.Num.Limbs)),.d (.bool a0.Den.Neg),.d (.list (List.map (eInt .u32) a0.Den.Limbs))]],[]⟩ rfl ?_ ?_))) h
 refine SWs.region ?_
 rcases Bool.eq_false_or_eq_true (y4.1 == y5.1) with hb10 | hb10
 rcases Bool.eq_false_or_eq_true (y4.2 != y5.2) with hb11 | hb11
 simp only [seval,EMLFormat,SL,PB,hb10,hb11,eInt]
 simp only [seval,EMLFormat,SL,PB,hb10,hb11,eInt]
 simp only [seval,EMLFormat,SL,PB,hb10,eInt]
 refine Mir.toK (.cond rfl (fun hb14=>?_) (fun hb14=>?_))
 refine .seqK (.joinV ([U,U,U,U,.d (.bool ((y4.1 == y5.1) && (y4.2 == y5.2)))] ++ us 73) ⟨[[.d (.bool a0.Num.Neg),.d (.list (List.map (eInt .u32) a0.Num.Limbs)),.d (.bool a0.Den.Neg),.d (.list (List.map (eInt .u32) a0.Den.Limbs))]],[]⟩ rfl ?_ ?_)
 refine SWs.region ?_
 rcases Bool.eq_false_or_eq_true (y4.1 == y5.1) with hb15 | hb15
 simp only [seval,EMLFormat,SL,PB,hb15,eInt]
 simp only [seval,EMLFormat,SL,PB,hb15,eInt]
 refine Mir.toK (.ret fun e h=>?_)
 cases h
 simp only [seval,FMLFormat,eInt,Tryz.results6]
 refine .skip (Mir.toK (.seqK (.bind fun y6 hy16=>.region fun e h=>?_)))
 simp only [seval,EMLFormat,eInt]
 refine SpecS.by (dc_Parse_spec hy16) (by simp only [seval,FMLFormat,eInt]) ?_
 simp only [seval,EMLFormat,zero_31,sz_31,eInt]
 refine mU e (.seqK (.sR fun e h=>?_)) h
 simp only [seval,EMLFormat,eInt]
 refine mU e (.cond rfl (fun hb18=>?_) (fun hb18=>?_)) h
 refine .sR fun e h=>?_
 simp only [seval,EMLFormat,eInt]
 refine mU e (.ret fun e h=>?_) h
 cases h
 simp only [seval,FMLFormat,eInt,Tryz.results6]
 refine .skip (Mir.toK (.seqK (.bind fun y7 hy19=>.bind fun y8 hy20=>.bind fun y9 hy21=>.region fun e h=>?_)))
 simp only [seval,EMLFormat,ag_31,sz_31,eInt]
 refine SpecS.by (r02_Sub_spec hy19) (by simp only [seval,FMLFormat,eInt]) ?_
 simp only [seval,EMLFormat,eInt]
 refine SpecS.by (r06_Power_spec hy20) (by simp only [seval,FMLFormat,eInt]) ?_
 simp only [seval,EMLFormat,eInt]
 refine SpecS.by (r02_Mul_spec hy21) (by simp only [seval,FMLFormat,eInt]) ?_
 simp only [seval,EMLFormat,zero_31,sz_31,eInt]
 refine mU e (.seqK (.bind fun y10 hy22=>.region fun e h=>?_)) h
 simp only [seval,EMLFormat,eInt]
 refine SpecS.by (r02_Frac_spec hy22) (by simp only [seval,FMLFormat,eInt]) ?_
 simp only [seval,EMLFormat,zero_31,sz_31,eInt]
 refine mU e (.seqK (Mir.joinO (fun v2 : Bool=>([U,U,U,U,.d (.bool v2)] ++ us 73)) (fun v2=>⟨[[.d (.bool a0.Num.Neg),.d (.list (List.map (eInt .u32) a0.Num.Limbs)),.d (.bool a0.Den.Neg),.d (.list (List.map (eInt .u32) a0.Den.Limbs))],[.d (.bool y6.1.Num.Neg),.d (.list (List.map (eInt .u32) y6.1.Num.Limbs)),.d (.bool y6.1.Den.Neg),.d (.list (List.map (eInt .u32) y6.1.Den.Limbs))],[.d (.bool y9.Num.Neg),.d (.list (List.map (eInt .u32) y9.Num.Limbs)),.d (.bool y9.Den.Neg),.d (.list (List.map (eInt .u32) y9.Den.Limbs))],[.d (.bool y10.Num.Neg),.d (.list (List.map (eInt .u32) y10.Num.Limbs)),.d (.bool y10.Den.Neg),.d (.list (List.map (eInt .u32) y10.Den.Limbs))]],[]⟩) (fun _=>rfl) ?_ ?_)) h
 refine .bind fun y11 hy23=>.ite (fun hb24=>?_) (fun hb24=>?_)
 refine .bind fun y12 hy25=>.bind fun y13 hy26=>.regionD [] (by kernel_rfl) fun e h=>?_
 simp only [seval,EMLFormat,SB,ag_31,sz_31,eInt,hb24]
 refine Spec.by (r02_Cmp_spec hy23) (by simp only [seval,FMLFormat,eInt,hb24]) ?_
 simp only [seval,EMLFormat,SB,ag_31,sz_31,eInt,hb24]
 refine Spec.by (r02_Neg_spec hy25) (by simp only [seval,FMLFormat,eInt,hb24]) ?_
 simp only [seval,EMLFormat,SB,ag_31,sz_31,eInt,hb24]
 refine Spec.by (r02_Cmp_spec hy26) (by simp only [seval,FMLFormat,eInt,hb24]) ?_
 simp only [seval,EMLFormat,SB,eInt,hb24]
 cases h
 simp only [seval,FMLFormat,eInt,hb24]
 refine .regionD [] (by kernel_rfl) fun e h=>?_
 simp only [seval,EMLFormat,SB,ag_31,sz_31,eInt,hb24]
 refine Spec.by (r02_Cmp_spec hy23) (by simp only [seval,FMLFormat,eInt,hb24]) ?_
 simp only [seval,EMLFormat,SB,eInt,hb24]
 cases h
 simp only [seval,FMLFormat,eInt,hb24]
 intro v2
 refine Mir.toK (.ret fun e h=>?_)
 cases h
 simp only [seval,FMLFormat,eInt,Tryz.results6]
theorem co_4 : Tryz.prog.cellsOf 4 = 1 := by kernel_rfl
theorem opn_4 : Opn Tryz.prog 4 eBool inBool := Opn.bool Tryz.underlying4
theorem co_73 : Tryz.prog.cellsOf 73 = 1 := by kernel_rfl
theorem opn_73 : Opn Tryz.prog 73 (eInt .u32) (inInt .u32) := Opn.int Tryz.underlying73
theorem co_27 : Tryz.prog.cellsOf 27 = 1 := by kernel_rfl
theorem opn_27 : Opn Tryz.prog 27 (eList (eInt .u32)) (inList (inInt .u32)) := Opn.slice Tryz.underlying27 opn_73 (fun _ => (rfl : _ = 1).trans co_73.symm) (by rw [co_73]; decide)
def inApiInt (x : ApiInt) : Prop := inBool x.Neg ∧ (inList (inInt .u32)) x.Limbs
theorem co_29 : Tryz.prog.cellsOf 29 = 2 := by kernel_rfl
theorem opn_29 : Opn Tryz.prog 29 encApiInt inApiInt := by
 intro w H enc fuel cs x h
 obtain ⟨xs, n, _, _, hl, hxl, hf⟩ := DataW.trod_struct Tryz.underlying29 h
 have hxl' : xs.length = 2 := hxl
 obtain ⟨s0, r0, o0⟩ := Opn.field hf 0 4 0 1 rfl co_4 (by omega) opn_4
 obtain ⟨s1, r1, o1⟩ := Opn.field hf 1 27 1 1 rfl co_27 (by omega) opn_27
 refine ⟨⟨s0, s1⟩, ?_, o0, o1⟩
 exact (RelC.cut 0 1 r0 rfl (RelC.cut 1 1 r1 rfl (RelC.nil (n := 2) (by rw [hl, co_29]; exact Nat.le_refl _))))
def inApiRat (x : ApiRat) : Prop := inApiInt x.Num ∧ inApiInt x.Den
theorem co_31 : Tryz.prog.cellsOf 31 = 4 := by kernel_rfl
theorem opn_31 : Opn Tryz.prog 31 encApiRat inApiRat := by
 intro w H enc fuel cs x h
 obtain ⟨xs, n, _, _, hl, hxl, hf⟩ := DataW.trod_struct Tryz.underlying31 h
 have hxl' : xs.length = 2 := hxl
 obtain ⟨s0, r0, o0⟩ := Opn.field hf 0 29 0 2 rfl co_29 (by omega) opn_29
 obtain ⟨s1, r1, o1⟩ := Opn.field hf 1 29 2 2 rfl co_29 (by omega) opn_29
 refine ⟨⟨s0, s1⟩, ?_, o0, o1⟩
 exact (RelC.cut 0 2 r0 rfl (RelC.cut 2 2 r1 rfl (RelC.nil (n := 4) (by rw [hl, co_31]; exact Nat.le_refl _))))
theorem opn_3 : Opn Tryz.prog 3 (eInt .i64) (inInt .i64) := Opn.int Tryz.underlying3
end Go.Proofs.YtipefnighcdgnaaGreatDoor
