import Derived.Test.YtipefnighcdgnaaGreatDoorGx
import Derived.Test.YtipefnighcdgnaaGreatDoorTy
import Derived.Test.YtipefnighcdgnaaGreatDoorGo
import Derived.Test.YtipefnighcdgnaaGreatDoorMI
import Derived.Test.YtipefnighcdgnaaGreatDoorMQ
import Derived.Test.YtipefnighcdgnaaGreatDoorMB
import Derived.Test.YtipefnighcdgnaaGreatDoorMT
namespace Go.Proofs.YtipefnighcdgnaaGreatDoor
open Go.RowKit
open Nat renaming reduceAdd → nA, reduceSub → nS, reduceMul → nM, reduceEqDiff → nE, reduceLeDiff → nL, reduceLT → nT, reduceBEq → nB
open Int renaming reduceLT → iT, reduceToNat → iN, reduceEq → iE
set_option linter.unusedVariables false
set_option linter.unusedSimpArgs false
set_option maxRecDepth 100000
set_option maxHeartbeats 8000000
theorem EMLExact : type_of% (@SE) := @SE
theorem FMLExact : type_of% (@SF) := @SF
def l06_DecimalExact (a0 : ApiRat) : Option Bool := bindO (bindO (l06_awake ) fun (y1 : Bool) => if y1 = true then bindO (r02_Small a0 6) fun (y2 : Bool) => some (!y2) else some true) fun (v1 : Bool) => if v1 = true then bindO (l06_awake ) fun (y3 : Bool) => some y3 else bindO (dc_Exact a0) fun (y4 : (List UInt8) × Bool) => bindO (r06_Exact a0) fun (y5 : (List UInt8) × Bool) => if (!(y4.1 == y5.1) || (!(y4.2 == y5.2) || (!y4.2))) = true then some ((y4.1 == y5.1) && (y4.2 == y5.2)) else bindO (dc_Parse y4.1) fun (y6 : ApiRat × Int) => bindO (if (y6.2 == 0) = true then bindO (r02_Same a0 y6.1) fun (y7 : Bool) => some y7 else some false) fun (v2 : Bool) => some v2
theorem l06_DecimalExact_spec {a0 : ApiRat} {y : Bool} (h : l06_DecimalExact a0 = some y) : Spec gP 7 [.agg [.d (.bool a0.Num.Neg), .d (.list (List.map (eInt .u32) a0.Num.Limbs)), .d (.bool a0.Den.Neg), .d (.list (List.map (eInt .u32) a0.Den.Limbs))]] (.d (.bool y)) := by
 refine spec_mir Tryz.func7 rfl (by kernel_rfl) (by kernel_rfl) (fun y : Bool => .d (.bool y)) ?_ h
 unfold l06_DecimalExact
 simp only [List.replicate, List.length, nS, nA, Tryz.ntmps7, SV]
 refine .sR fun e h=>?_
 simp only [seval,EMLExact,eInt]
 refine mU e (.seqK (.seqK (Mir.joinO (fun v1 : Bool=>([U,.ptr 0 0,U,U,U,U,U,U,U,U,U,U,U,U,U,.d (.bool v1)] ++ us 43)) (fun v1=>⟨[[.d (.bool a0.Num.Neg),.d (.list (List.map (eInt .u32) a0.Num.Limbs)),.d (.bool a0.Den.Neg),.d (.list (List.map (eInt .u32) a0.Den.Limbs))]],[]⟩) (fun _=>rfl) ?_ ?_))) h
 refine .bind fun y1 hy1=>.ite (fun hb2=>?_) (fun hb2=>?_)
 refine .bind fun y2 hy3=>.region fun e h=>?_
 simp only [seval,EMLExact,eInt,hb2]
 refine SpecS.by (l06_awake_spec hy1) (rfl) ?_
 simp only [seval,EMLExact,ag_31,sz_31,eInt,hb2]
 refine SpecS.by (r02_Small_spec hy3) (by simp only [seval,FMLExact,eInt,hb2]) ?_
 simp only [seval,EMLExact,eInt,hb2]
 cases h
 simp only [seval,FMLExact,eInt,hb2]
 refine .region fun e h=>?_
 simp only [seval,EMLExact,eInt,hb2]
 refine SpecS.by (l06_awake_spec hy1) (rfl) ?_
 simp only [seval,EMLExact,eInt,hb2]
 cases h
 simp only [seval,FMLExact,eInt,hb2]
 intro v1
 refine Mir.toK (.cond rfl (fun hb6=>?_) (fun hb6=>?_))
 refine .seqK (.bind fun y3 hy7=>.region fun e h=>?_)
 simp only [seval,EMLExact,eInt]
 refine SpecS.by (l06_awake_spec hy7) (rfl) ?_
 simp only [seval,EMLExact,eInt]
 refine mU e (.ret fun e h=>?_) h
 cases h
 simp only [seval,FMLExact,eInt,Tryz.results7]
 refine .skip (Mir.toK (.seqK (.bind fun y4 hy8=>.region fun e h=>?_)))
 simp only [seval,EMLExact,ag_31,sz_31,eInt]
 refine SpecS.by (dc_Exact_spec hy8) (by simp only [seval,FMLExact,eInt]) ?_
 simp only [seval,EMLExact,eInt]
 refine mU e (.seqK (.bind fun y5 hy9=>.region fun e h=>?_)) h
 simp only [seval,EMLExact,ag_31,sz_31,eInt]
 refine SpecS.by (r06_Exact_spec hy9) (by simp only [seval,FMLExact,eInt]) ?_
 simp only [seval,EMLExact,eInt]
 refine mU e (.seqK (.seqK (.joinV ([U,.ptr 0 0,U,.d (.str y4.1),.d (.bool y4.2),.d (.str y5.1),.d (.bool y5.2),U,U,U,U,U,U,U,U,U,U,U,U,U,U,U,U,U,U,U,U,U,U,U,U,U,U,U,U,U,U,U,.d (.bool (!(y4.1 == y5.1) || (!(y4.2 == y5.2) || (!y4.2))))] ++ us 20) ⟨[[.d (.bool a0.Num.Neg),.d (.list (List.map (eInt .u32) a0.Num.Limbs)),.d (.bool a0.Den.Neg),.d (.list (List.map (eInt .u32) a0.Den.Limbs))]],[]⟩ rfl ?_ ?_))) h
 refine SWs.region ?_
 rcases Bool.eq_false_or_eq_true (y4.1 == y5.1) with hb10 | hb10
 rcases Bool.eq_false_or_eq_true (y4.2 == y5.2) with hb11 | hb11
 simp only [seval,EMLExact,SL,PB,und_4,hb10,hb11,eInt]
 simp only [seval,EMLExact,SL,PB,und_4,hb10,hb11,eInt]
 simp only [seval,EMLExact,SL,PB,hb10,eInt]
 refine Mir.toK (.cond rfl (fun hb14=>?_) (fun hb14=>?_))
 refine .seqK (.joinV ([U,U,.d (.bool ((y4.1 == y5.1) && (y4.2 == y5.2)))] ++ us 56) ⟨[[.d (.bool a0.Num.Neg),.d (.list (List.map (eInt .u32) a0.Num.Limbs)),.d (.bool a0.Den.Neg),.d (.list (List.map (eInt .u32) a0.Den.Limbs))]],[]⟩ rfl ?_ ?_)
 refine SWs.region ?_
 rcases Bool.eq_false_or_eq_true (y4.1 == y5.1) with hb15 | hb15
 simp only [seval,EMLExact,SL,PB,und_4,hb15,eInt]
 simp only [seval,EMLExact,SL,PB,hb15,eInt]
 refine Mir.toK (.ret fun e h=>?_)
 cases h
 simp only [seval,FMLExact,eInt,Tryz.results7]
 refine .skip (Mir.toK (.seqK (.bind fun y6 hy16=>.region fun e h=>?_)))
 simp only [seval,EMLExact,eInt]
 refine SpecS.by (dc_Parse_spec hy16) (by simp only [seval,FMLExact,eInt]) ?_
 simp only [seval,EMLExact,zero_31,sz_31,eInt]
 refine mU e (.seqK (Mir.joinO (fun v2 : Bool=>([U,U,.d (.bool v2)] ++ us 56)) (fun v2=>⟨[[.d (.bool a0.Num.Neg),.d (.list (List.map (eInt .u32) a0.Num.Limbs)),.d (.bool a0.Den.Neg),.d (.list (List.map (eInt .u32) a0.Den.Limbs))],[.d (.bool y6.1.Num.Neg),.d (.list (List.map (eInt .u32) y6.1.Num.Limbs)),.d (.bool y6.1.Den.Neg),.d (.list (List.map (eInt .u32) y6.1.Den.Limbs))]],[]⟩) (fun _=>rfl) ?_ ?_)) h
 refine .ite (fun hb17=>?_) (fun hb17=>?_)
 refine .bind fun y7 hy18=>.region fun e h=>?_
 simp only [seval,EMLExact,ag_31,sz_31,eInt,hb17]
 refine SpecS.by (r02_Same_spec hy18) (by simp only [seval,FMLExact,eInt,hb17]) ?_
 simp only [seval,EMLExact,eInt,hb17]
 cases h
 simp only [seval,FMLExact,eInt,hb17]
 refine .region fun e h=>?_
 simp only [seval,EMLExact,eInt,hb17]
 cases h
 simp only [seval,FMLExact,eInt,hb17]
 intro v2
 refine Mir.toK (.ret fun e h=>?_)
 cases h
 simp only [seval,FMLExact,eInt,Tryz.results7]
theorem co_4 : Tryz.prog.cellsOf 4 = 1 := by kernel_rfl
theorem opn_4 : Opn Tryz.prog 4 eBool inBool := Opn.bool Tryz.underlying4
theorem co_73 : Tryz.prog.cellsOf 73 = 1 := by kernel_rfl
theorem opn_73 : Opn Tryz.prog 73 (eInt .u32) (inInt .u32) := Opn.int Tryz.underlying73
theorem co_27 : Tryz.prog.cellsOf 27 = 1 := by kernel_rfl
theorem opn_27 : Opn Tryz.prog 27 (eList (eInt .u32)) (inList (inInt .u32)) := Opn.slice Tryz.underlying27 opn_73 (fun _ => (rfl : _ = 1).trans co_73.symm) (by rw [co_73]; decide)
def inApiInt (x : ApiInt) : Prop := inBool x.Neg ∧ (inList (inInt .u32)) x.Limbs
theorem co_29 : Tryz.prog.cellsOf 29 = 2 := by kernel_rfl
theorem opn_29 : Opn Tryz.prog 29 encApiInt inApiInt := by
 intro w H enc fuel cs x h
 obtain ⟨xs, n, _, _, hl, hxl, hf⟩ := DataW.trod_struct Tryz.underlying29 h
 have hxl' : xs.length = 2 := hxl
 obtain ⟨s0, r0, o0⟩ := Opn.field hf 0 4 0 1 rfl co_4 (by omega) opn_4
 obtain ⟨s1, r1, o1⟩ := Opn.field hf 1 27 1 1 rfl co_27 (by omega) opn_27
 refine ⟨⟨s0, s1⟩, ?_, o0, o1⟩
 exact (RelC.cut 0 1 r0 rfl (RelC.cut 1 1 r1 rfl (RelC.nil (n := 2) (by rw [hl, co_29]; exact Nat.le_refl _))))
def inApiRat (x : ApiRat) : Prop := inApiInt x.Num ∧ inApiInt x.Den
theorem co_31 : Tryz.prog.cellsOf 31 = 4 := by kernel_rfl
theorem opn_31 : Opn Tryz.prog 31 encApiRat inApiRat := by
 intro w H enc fuel cs x h
 obtain ⟨xs, n, _, _, hl, hxl, hf⟩ := DataW.trod_struct Tryz.underlying31 h
 have hxl' : xs.length = 2 := hxl
 obtain ⟨s0, r0, o0⟩ := Opn.field hf 0 29 0 2 rfl co_29 (by omega) opn_29
 obtain ⟨s1, r1, o1⟩ := Opn.field hf 1 29 2 2 rfl co_29 (by omega) opn_29
 refine ⟨⟨s0, s1⟩, ?_, o0, o1⟩
 exact (RelC.cut 0 2 r0 rfl (RelC.cut 2 2 r1 rfl (RelC.nil (n := 4) (by rw [hl, co_31]; exact Nat.le_refl _))))
end Go.Proofs.YtipefnighcdgnaaGreatDoor
