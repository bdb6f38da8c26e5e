import Derived.Test.YthljcnchaopncaaGreatDoorGx
import Derived.Test.YthljcnchaopncaaGreatDoorTy
import Derived.Test.YthljcnchaopncaaGreatDoorSzz
namespace Go.Proofs.YthljcnchaopncaaGreatDoor
open Go.RowKit
open Nat renaming reduceAdd → nA,reduceSub → nS,reduceMul → nM,reduceEqDiff → nE,reduceLeDiff → nL,reduceLT → nT,reduceBEq → nB
open Int renaming reduceLT → iT,reduceToNat → iN,reduceEq → iE
set_option linter.unusedVariables false
set_option linter.unusedSimpArgs false
set_option maxRecDepth 100000
set_option maxHeartbeats 8000000
structure ApiInt where
 Neg : Bool
 Limbs : (List Int)
 deriving DecidableEq
def encApiInt (x : ApiInt) : List D := [.bool x.Neg,.list (List.map (eInt .u32) x.Limbs)]
theorem ENMI : type_of% (@encApiInt.eq_1) := @encApiInt.eq_1
theorem EMI : type_of% (And.intro @SE <| @ENMI) := And.intro @SE <| @ENMI
theorem FMI : type_of% (And.intro @SF <| @ENMI) := And.intro @SF <| @ENMI
def r01_trim (a0 : (List Int)) : Option (List Int) := bindO (loopX (fun (v1 : (List Int))=>bindO (if (decide ((v1.length : Int) > 0)) = true then bindO (gt v1 (IntKind.i64.wrap ((v1.length : Int) - 1))) fun (e1 : Int)=>some (e1 == 0) else some false) fun (v2 : Bool)=>if v2 = true then bindO (cutT v1 (IntKind.i64.wrap ((v1.length : Int) - 1))) fun (s1 : (List Int))=>some (.go s1) else some (.ret v1)) fuel a0) fun (v3 : (List Int))=>some v3
theorem r01_trim_spec {a0 : (List Int)} {y : (List Int)} (h : r01_trim a0 = some y) : Spec gP 156 [.d (.list (List.map (eInt .u32) a0))] (.d (.list (List.map (eInt .u32) y))) := by
 refine spec_mir Tryz.func156 rfl (by kernel_rfl) (by kernel_rfl) (fun y : (List Int)=>.d (.list (List.map (eInt .u32) y))) ?_ h
 unfold r01_trim
 simp only [List.replicate,List.length,nS,nA,Tryz.ntmps156,SV]
 refine .sR fun e h=>?_
 simp only [seval,EMI,eInt]
 refine mU e (.seqK (Mir.joinO (fun v3 : (List Int)=>([.d (.list (List.map (eInt .u32) v3))] ++ us 20)) (fun v3=>⟨[],[]⟩) (fun _=>rfl) ?_ ?_)) h
 refine .block (Mir.loop (fun v1 : (List Int)=>([.d (.list (List.map (eInt .u32) v1))] ++ us 20)) (fun v1=>⟨[],[]⟩) (fun _=>rfl) (by simp only [seval,FMI,eInt]) (by simp only [seval,FMI,eInt]) fun v1=>.seqK (.seqK (Mir.joinO (fun v2 : Bool=>([.d (.list (List.map (eInt .u32) v1)),U,U,U,U,U,U,U,U,U,U,U,U,U,.d (.bool v2)] ++ us 6)) (fun v2=>⟨[],[]⟩) (fun _=>rfl) ?_ ?_)))
 refine .ite (fun hb34=>?_) (fun hb34=>?_)
 refine .bind fun e1 q35=>?_
 replace q35 := gt_ok q35
 refine .region fun e h=>?_
 simp only [seval,EMI,und_90,sz_146,q35,ag_146,eInt,hb34]
 cases h
 simp only [seval,FMI,eInt,hb34]
 refine .region fun e h=>?_
 simp only [seval,EMI,und_90,eInt,hb34]
 cases h
 simp only [seval,FMI,eInt,hb34]
 intro v2
 refine Mir.toK (.cond rfl (fun hb37=>?_) (fun hb37=>?_))
 refine .skip (Mir.toK (.block (.bind fun s1 q38=>?_)))
 replace q38 := cutT_ok q38
 refine .region fun e h=>?_
 simp only [seval,EMI,und_90,sz_146,q38,Nat.le_refl,and_true,true_and,dm,tm,al_eInt,eInt]
 cases h
 simp only [seval,FMI,eInt,Tryz.results156]
 refine .exit fun e h=>?_
 cases h
 simp only [seval,FMI,eInt,Tryz.results156]
 intro v3
 refine Mir.toK (.sR fun e h=>?_)
 simp only [seval,EMI,eInt]
 refine mU e (.ret fun e h=>?_) h
 cases h
 simp only [seval,FMI,eInt,Tryz.results156]
def r01_plus (a0 : (List Int)) (a1 : (List Int)) : Option (List Int) := bindO (if (decide ((a0.length : Int) < (a1.length : Int))) = true then some (a1,a0) else some (a0,a1)) fun (v1 : (List Int) × (List Int))=>guardO (decide ((0 : Int) ≤ (IntKind.i64.wrap ((v1.1.length : Int) + 1)))) ( guardO (okLen (Int.toNat (IntKind.i64.wrap ((v1.1.length : Int) + 1)))) ( bindO (guardO (okIdx v1.1) ( rangeX (fun (i1 : Nat) (e1 : Int) (v2 : Int × (List Int))=>bindO (if (decide ((i1 : Int) < (v1.2.length : Int))) = true then bindO (gt v1.2 (i1 : Int)) fun (e2 : Int)=>some (IntKind.u32.wrap ((IntKind.u32.wrap (v2.1 + e1)) + e2)) else some (IntKind.u32.wrap (v2.1 + e1))) fun (v3 : Int)=>bindO (gt v2.2 (i1 : Int)) fun (e3 : Int)=>some (.go (IntKind.u32.wrap (Int.tdiv v3 1000000000),v2.2.set (Int.toNat (i1 : Int)) (Int.tmod v3 1000000000)))) (fun (v2 : Int × (List Int))=>some (v2.1,v2.2)) v1.1 0 (0,List.replicate (Int.toNat (IntKind.i64.wrap ((v1.1.length : Int) + 1))) (0 : Int)))) fun (v4 : Int × (List Int))=>bindO (gt v4.2 (v1.1.length : Int)) fun (e4 : Int)=>bindO (r01_trim (v4.2.set (Int.toNat (v1.1.length : Int)) v4.1)) fun (y1 : (List Int))=>some y1))
theorem r01_plus_spec {a0 : (List Int)} {a1 : (List Int)} {y : (List Int)} (h : r01_plus a0 a1 = some y) : Spec gP 160 [.d (.list (List.map (eInt .u32) a0)),.d (.list (List.map (eInt .u32) a1))] (.d (.list (List.map (eInt .u32) y))) := by
 refine spec_mir Tryz.func160 rfl (by kernel_rfl) (by kernel_rfl) (fun y : (List Int)=>.d (.list (List.map (eInt .u32) y))) ?_ h
 unfold r01_plus
 simp only [List.replicate,List.length,nS,nA,Tryz.ntmps160,SV]
 refine .sR fun e h=>?_
 simp only [seval,EMI,eInt,rmap_set,spD]
 refine mU e (.seqK (.sR fun e h=>?_)) h
 simp only [seval,EMI,und_90,eInt,rmap_set,spD]
 refine mU e (Mir.joinO (fun v1 : (List Int) × (List Int)=>([.d (.list (List.map (eInt .u32) v1.1)),.d (.list (List.map (eInt .u32) v1.2))] ++ us 53)) (fun v1=>⟨[],[]⟩) (fun _=>rfl) ?_ ?_) h
 refine .cond rfl (fun hb2=>?_) (fun hb2=>?_)
 refine .region fun e h=>?_
 simp only [seval,EMI,eInt]
 cases h
 simp only [seval,FMI,eInt,Tryz.results160]
 refine .skip fun e h=>?_
 cases h
 simp only [seval,FMI,eInt,Tryz.results160]
 intro v1
 refine Mir.toK (.seqK (.guard fun q3=>.guard fun q4=>.regionW fun e h=>regW.alt 3 rfl ?_))
 simp only [seval,EMI,w_none,w_eq,und_90,eInt,rmap_set,spD]
 refine alt_makeM (en := (eInt .u32)) (z := 0) rfl rfl app_90 zero_146 rfl rfl (of_decide_eq_true q3) q4 (regW.of ?_)
 simp only [seval,EMI,w_none,w_eq,eInt,rmap_set,spD]
 refine mU e (.sR fun e h=>?_) h
 simp only [seval,EMI,eInt,rmap_set,spD]
 refine mU e (.seqK (.sR fun e h=>?_)) h
 simp only [seval,EMI,eInt,rmap_set,spD]
 refine mU e (Mir.joinO (fun v4 : Int × (List Int)=>([.d (.list (List.map (eInt .u32) v1.1)),U,U,U,U,.gr 0 0,.d (.int .u32 v4.1)] ++ us 48)) (fun v4=>⟨[[.rowc 146 0 (List.map (eInt .u32) v4.2)]],[]⟩) (fun _=>rfl) ?_ ?_) h
 refine .block (.guard fun q1=>Mir.range (fun (i1 : Nat) (v2 : Int × (List Int))=>([.d (.list (List.map (eInt .u32) v1.1)),.d (.list (List.map (eInt .u32) v1.2)),U,U,U,.gr 0 0,.d (.int .u32 v2.1),.d (.int .i64 (i1 : Int))] ++ us 47)) (fun i1 v2=>⟨[[.rowc 146 0 (List.map (eInt .u32) v2.2)]],[]⟩) q1 (fun _ _=>rfl) (by simp only [seval,FMI,eInt,rmap_set,spD,zNI]) (by simp only [seval,FMI,eInt,rmap_set,spD,zNI]) ?_ ?_)
 intro i1 e1 v2 q2
 refine .seqK (.sR fun e h=>?_)
 simp only [seval,EMI,und_90,q2,eInt,rmap_set,spD]
 refine mU e (.condT rfl (.skip (Mir.toK (.seqK (.block (.sR fun e h=>?_)))))) h
 simp only [seval,EMI,und_90,sz_146,q2,Int.toNat_natCast,ag_146,eInt,rmap_set,spD]
 refine mU e (.seqK (.sR fun e h=>?_)) h
 simp only [seval,EMI,und_90,eInt,rmap_set,spD]
 refine mU e (Mir.joinO (fun v3 : Int=>([.d (.list (List.map (eInt .u32) v1.1)),.d (.list (List.map (eInt .u32) v1.2)),U,U,U,.gr 0 0,.d (.int .u32 v3),.d (.int .i64 (i1 : Int))] ++ us 47)) (fun v3=>⟨[[.rowc 146 0 (List.map (eInt .u32) v2.2)]],[]⟩) (fun _=>rfl) ?_ ?_) h
 refine .cond rfl (fun h1=>?_) (fun h1=>?_)
 refine .bind fun e2 q5=>?_
 replace q5 := gt_ok q5
 simp only [Int.toNat_natCast] at q5
 refine .region fun e h=>?_
 simp only [seval,EMI,und_90,sz_146,q5,Int.toNat_natCast,ag_146,eInt,rmap_set,spD]
 cases h
 simp only [seval,FMI,eInt,rmap_set,spD,Tryz.results160]
 refine .skip fun e h=>?_
 cases h
 simp only [seval,FMI,eInt,rmap_set,spD,Tryz.results160]
 intro v3
 refine Mir.toK (.seqK (.bind fun e3 q6=>?_))
 replace q6 := gt_ok q6
 refine .regionW fun e h=>regW.alt 4 rfl ?_
 simp only [seval,EMI,w_none,w_eq,eInt,rmap_set,spD]
 refine alt_indexR rfl rfl rfl und_90 sz_146 (row_lo q6.1) (row_hi q6.2 q6.1) (regW.alt 0 rfl ?_)
 simp only [seval,EMI,w_none,w_eq,und_90,sz_146,eInt,rmap_set,spD]
 refine alt_storeR rfl rfl (row_at q6.2) rfl rfl sz_146 rfl (Nat.le_of_ble_eq_true rfl) (regW.of ?_)
 simp only [seval,EMI,w_none,w_eq,sz_146,eInt,rmap_set,spD]
 refine mU e (.region fun e h=>?_) h
 simp only [seval,EMI,eInt,rmap_set,spD]
 refine mU e (.region fun e h=>?_) h
 simp only [seval,EMI,eInt,rmap_set,spD]
 cases h
 simp only [seval,FMI,eInt,rmap_set,spD,Tryz.results160,q2]
 intro v2 q7
 refine .seqK (.sR fun e h=>?_)
 simp only [seval,EMI,und_90,q7,eInt,rmap_set,spD]
 refine mU e (.condF rfl (.exit fun e h=>?_)) h
 cases h
 simp only [seval,FMI,eInt,rmap_set,spD,Tryz.results160]
 intro v4
 refine Mir.toK (.seqK (.bind fun e4 q8=>?_))
 replace q8 := gt_ok q8
 refine .regionW fun e h=>regW.alt 4 rfl ?_
 simp only [seval,EMI,w_none,w_eq,und_90,eInt,rmap_set,spD]
 refine alt_indexR rfl rfl rfl und_90 sz_146 (row_lo q8.1) (row_hi q8.2 q8.1) (regW.alt 0 rfl ?_)
 simp only [seval,EMI,w_none,w_eq,und_90,sz_146,eInt,rmap_set,spD]
 refine alt_storeR rfl rfl (row_at q8.2) rfl rfl sz_146 rfl (Nat.le_of_ble_eq_true rfl) (regW.of ?_)
 simp only [seval,EMI,w_none,w_eq,sz_146,eInt,rmap_set,spD]
 refine mU e (.seqK (.frz 0 rfl ?_)) h
 simp only [seval,us_0,us_s,xCA,xNA,and_self,and_true,true_and,and_false,false_and,SZ]
 refine .bind fun y1 h2=>.region fun e h=>?_
 simp only [seval,EMI,eInt,rmap_set,spD]
 refine SpecS.by (r01_trim_spec h2) (by simp only [seval,FMI,eInt,rmap_set,spD]) ?_
 simp only [seval,EMI,eInt,rmap_set,spD]
 refine mU e (.ret fun e h=>?_) h
 cases h
 simp only [seval,FMI,eInt,rmap_set,spD,Tryz.results160]
def r01_signed (a0 : Bool) (a1 : (List Int)) : Option ApiInt := bindO (r01_trim a1) fun (y1 : (List Int))=>some (ApiInt.mk (a0 && (decide ((y1.length : Int) > 0))) y1)
theorem r01_signed_spec {a0 : Bool} {a1 : (List Int)} {y : ApiInt} (h : r01_signed a0 a1 = some y) : Spec gP 132 [.d (.bool a0),.d (.list (List.map (eInt .u32) a1))] (.agg [.d (.bool y.Neg),.d (.list (List.map (eInt .u32) y.Limbs))]) := by
 refine spec_mir Tryz.func132 rfl (by kernel_rfl) (by kernel_rfl) (fun y : ApiInt=>.agg [.d (.bool y.Neg),.d (.list (List.map (eInt .u32) y.Limbs))]) ?_ h
 unfold r01_signed
 simp only [List.replicate,List.length,nS,nA,Tryz.ntmps132,SV]
 refine .sR fun e h=>?_
 simp only [seval,EMI,zero_92,eInt]
 refine mU e (.seqK (.bind fun y1 hy1=>.region fun e h=>?_)) h
 simp only [seval,EMI,eInt]
 refine SpecS.by (r01_trim_spec hy1) (by simp only [seval,FMI,eInt]) ?_
 simp only [seval,EMI,eInt]
 refine mU e (.seqK (.joinV ([U,U,U,U,.ptr 0 0] ++ us 10) ⟨[[.d (.bool (a0 && (decide ((y1.length : Int) > 0)))),.d (.list (List.map (eInt .u32) y1))]],[]⟩ rfl ?_ ?_)) h
 refine SWs.region ?_
 rcases Bool.eq_false_or_eq_true (a0) with hb2 | hb2
 simp only [seval,EMI,SL,PB,und_90,zero_92,pl_92,sz_92,hb2,eInt]
 simp only [seval,EMI,SL,PB,zero_92,pl_92,sz_92,hb2,eInt]
 refine Mir.toK (.ret fun e h=>?_)
 cases h
 simp only [seval,FMI,eInt,Tryz.results132,ag_92,sz_92]
def r01_compare (a0 : (List Int)) (a1 : (List Int)) : Option Int := if ((a0.length : Int) != (a1.length : Int)) = true then if (decide ((a0.length : Int) < (a1.length : Int))) = true then some (-1) else some 1 else bindX (loopX (fun (v1 : Int)=>if (decide (v1 ≥ 0)) = true then bindO (gt a0 v1) fun (e1 : Int)=>bindO (gt a1 v1) fun (e2 : Int)=>if (decide (e1 < e2)) = true then some (.ret (.ret (-1))) else if (decide (e1 > e2)) = true then some (.ret (.ret 1)) else some (.go (IntKind.i64.wrap (v1 - 1))) else some (.ret (.go ()))) fuel (IntKind.i64.wrap ((a0.length : Int) - 1))) fun (v2 : Unit)=>some 0
theorem r01_compare_spec {a0 : (List Int)} {a1 : (List Int)} {y : Int} (h : r01_compare a0 a1 = some y) : Spec gP 151 [.d (.list (List.map (eInt .u32) a0)),.d (.list (List.map (eInt .u32) a1))] (.d (.int .i64 y)) := by
 refine spec_mir Tryz.func151 rfl (by kernel_rfl) (by kernel_rfl) (fun y : Int=>.d (.int .i64 y)) ?_ h
 unfold r01_compare
 simp only [List.replicate,List.length,nS,nA,Tryz.ntmps151,SV]
 refine .sR fun e h=>?_
 simp only [seval,EMI,eInt]
 refine mU e (.seqK (.sR fun e h=>?_)) h
 simp only [seval,EMI,und_90,eInt]
 refine mU e (.cond rfl (fun hb4=>?_) (fun hb4=>?_)) h
 refine .seqK (.sR fun e h=>?_)
 simp only [seval,EMI,und_90,eInt]
 refine mU e (.cond rfl (fun hb6=>?_) (fun hb6=>?_)) h
 refine .sR fun e h=>?_
 simp only [seval,EMI,eInt]
 refine mU e (.ret fun e h=>?_) h
 cases h
 simp only [seval,FMI,eInt,Tryz.results151]
 refine .skip (Mir.toK (.sR fun e h=>?_))
 simp only [seval,EMI,eInt]
 refine mU e (.ret fun e h=>?_) h
 cases h
 simp only [seval,FMI,eInt,Tryz.results151]
 refine .skip (Mir.toK (.seqK (.sR fun e h=>?_)))
 simp only [seval,EMI,und_90,eInt]
 refine mU e (Mir.join (fun v2 : Unit=>(us 41)) (fun v2=>⟨[],[]⟩) (fun _=>rfl) ?_ ?_) h
 refine .block (Mir.loop (fun v1 : Int=>([.d (.list (List.map (eInt .u32) a0)),.d (.list (List.map (eInt .u32) a1)),U,U,U,.d (.int .i64 v1)] ++ us 35)) (fun v1=>⟨[],[]⟩) (fun _=>rfl) (by simp only [seval,FMI,eInt]) (by simp only [seval,FMI,eInt]) fun v1=>.seqK (.sR fun e h=>?_))
 simp only [seval,EMI,eInt]
 refine mU e (.cond rfl (fun hb73=>?_) (fun hb73=>?_)) h
 refine .skip (Mir.toK (.seqK (.block (.seqK (.seqK (.bind fun e1 q79=>?_))))))
 replace q79 := gt_ok q79
 refine .bind fun e2 q80=>?_
 replace q80 := gt_ok q80
 refine .regionD [] (by kernel_rfl) fun e h=>?_
 simp only [seval,EMI,SB,und_90,sz_146,q79,ag_146,q80,eInt]
 refine mU e (.cond rfl (fun hb82=>?_) (fun hb82=>?_)) h
 refine .sR fun e h=>?_
 simp only [seval,EMI,eInt]
 refine mU e (.ret fun e h=>?_) h
 cases h
 simp only [seval,FMI,eInt,Tryz.results151]
 refine .skip (Mir.toK (.seqK (.regionD [] (by kernel_rfl) fun e h=>?_)))
 simp only [seval,EMI,SB,und_90,sz_146,q79,ag_146,q80,eInt]
 refine mU e (.cond rfl (fun hb84=>?_) (fun hb84=>?_)) h
 refine .sR fun e h=>?_
 simp only [seval,EMI,eInt]
 refine mU e (.ret fun e h=>?_) h
 cases h
 simp only [seval,FMI,eInt,Tryz.results151]
 refine .skip (Mir.toB (Mir.toK (.region fun e h=>?_)))
 simp only [seval,EMI,eInt]
 cases h
 simp only [seval,FMI,eInt,Tryz.results151]
 refine .exit fun e h=>?_
 cases h
 simp only [seval,FMI,eInt,Tryz.results151]
 intro v2
 refine Mir.toK (.sR fun e h=>?_)
 simp only [seval,EMI,eInt]
 refine mU e (.ret fun e h=>?_) h
 cases h
 simp only [seval,FMI,eInt,Tryz.results151]
def r01_minus (a0 : (List Int)) (a1 : (List Int)) : Option (List Int) := guardO (decide ((0 : Int) ≤ (a0.length : Int))) ( guardO (okLen (Int.toNat (a0.length : Int))) ( bindO (guardO (okIdx a0) ( rangeX (fun (i1 : Nat) (e1 : Int) (v1 : Int × (List Int))=>bindO (if (decide ((i1 : Int) < (a1.length : Int))) = true then bindO (gt a1 (i1 : Int)) fun (e2 : Int)=>some (IntKind.u32.wrap ((IntKind.u32.wrap ((IntKind.u32.wrap (e1 + 1000000000)) - v1.1)) - e2)) else some (IntKind.u32.wrap ((IntKind.u32.wrap (e1 + 1000000000)) - v1.1))) fun (v2 : Int)=>bindO (if (decide (v2 ≥ 1000000000)) = true then some (0,IntKind.u32.wrap (v2 - 1000000000)) else some (1,v2)) fun (v3 : Int × Int)=>bindO (gt v1.2 (i1 : Int)) fun (e3 : Int)=>some (.go (v3.1,v1.2.set (Int.toNat (i1 : Int)) v3.2))) (fun (v1 : Int × (List Int))=>some v1.2) a0 0 (0,List.replicate (Int.toNat (a0.length : Int)) (0 : Int)))) fun (v4 : (List Int))=>bindO (r01_trim v4) fun (y1 : (List Int))=>some y1))
theorem r01_minus_spec {a0 : (List Int)} {a1 : (List Int)} {y : (List Int)} (h : r01_minus a0 a1 = some y) : Spec gP 159 [.d (.list (List.map (eInt .u32) a0)),.d (.list (List.map (eInt .u32) a1))] (.d (.list (List.map (eInt .u32) y))) := by
 refine spec_mir Tryz.func159 rfl (by kernel_rfl) (by kernel_rfl) (fun y : (List Int)=>.d (.list (List.map (eInt .u32) y))) ?_ h
 unfold r01_minus
 simp only [List.replicate,List.length,nS,nA,Tryz.ntmps159,SV]
 refine .sR fun e h=>?_
 simp only [seval,EMI,eInt,rmap_set,spD]
 refine mU e (.seqK (.guard fun q1=>.guard fun q2=>.regionW fun e h=>regW.alt 2 rfl ?_)) h
 simp only [seval,EMI,w_none,w_eq,und_90,eInt,rmap_set,spD]
 refine alt_makeM (en := (eInt .u32)) (z := 0) rfl rfl app_90 zero_146 rfl rfl (of_decide_eq_true q1) q2 (regW.of ?_)
 simp only [seval,EMI,w_none,w_eq,eInt,rmap_set,spD]
 refine mU e (.sR fun e h=>?_) h
 simp only [seval,EMI,eInt,rmap_set,spD]
 refine mU e (.seqK (.sR fun e h=>?_)) h
 simp only [seval,EMI,eInt,rmap_set,spD]
 refine mU e (Mir.joinO (fun v4 : (List Int)=>([U,U,U,U,U,.gr 0 0] ++ us 39)) (fun v4=>⟨[[.rowc 146 0 (List.map (eInt .u32) v4)]],[]⟩) (fun _=>rfl) ?_ ?_) h
 refine .block (.guard fun q3=>Mir.range (fun (i1 : Nat) (v1 : Int × (List Int))=>([.d (.list (List.map (eInt .u32) a0)),.d (.list (List.map (eInt .u32) a1)),U,U,U,.gr 0 0,.d (.int .u32 v1.1),.d (.int .i64 (i1 : Int))] ++ us 37)) (fun i1 v1=>⟨[[.rowc 146 0 (List.map (eInt .u32) v1.2)]],[]⟩) q3 (fun _ _=>rfl) (by simp only [seval,FMI,eInt,rmap_set,spD,zNI]) (by simp only [seval,FMI,eInt,rmap_set,spD,zNI]) ?_ ?_)
 intro i1 e1 v1 q4
 refine .seqK (.sR fun e h=>?_)
 simp only [seval,EMI,und_90,q4,eInt,rmap_set,spD]
 refine mU e (.condT rfl (.skip (Mir.toK (.seqK (.block (.sR fun e h=>?_)))))) h
 simp only [seval,EMI,und_90,sz_146,q4,Int.toNat_natCast,ag_146,eInt,rmap_set,spD]
 refine mU e (.seqK (.sR fun e h=>?_)) h
 simp only [seval,EMI,und_90,eInt,rmap_set,spD]
 refine mU e (Mir.joinO (fun v2 : Int=>([.d (.list (List.map (eInt .u32) a0)),.d (.list (List.map (eInt .u32) a1)),U,U,U,.gr 0 0,U,.d (.int .i64 (i1 : Int)),.d (.int .u32 v2)] ++ us 36)) (fun v2=>⟨[[.rowc 146 0 (List.map (eInt .u32) v1.2)]],[]⟩) (fun _=>rfl) ?_ ?_) h
 refine .cond rfl (fun h1=>?_) (fun h1=>?_)
 refine .bind fun e2 q5=>?_
 replace q5 := gt_ok q5
 simp only [Int.toNat_natCast] at q5
 refine .region fun e h=>?_
 simp only [seval,EMI,und_90,sz_146,q5,Int.toNat_natCast,ag_146,eInt,rmap_set,spD]
 cases h
 simp only [seval,FMI,eInt,rmap_set,spD,Tryz.results159]
 refine .skip fun e h=>?_
 cases h
 simp only [seval,FMI,eInt,rmap_set,spD,Tryz.results159]
 intro v2
 refine Mir.toK (.sR fun e h=>?_)
 simp only [seval,EMI,eInt,rmap_set,spD]
 refine mU e (.seqK (.sR fun e h=>?_)) h
 simp only [seval,EMI,eInt,rmap_set,spD]
 refine mU e (Mir.joinO (fun v3 : Int × Int=>([.d (.list (List.map (eInt .u32) a0)),.d (.list (List.map (eInt .u32) a1)),U,U,U,.gr 0 0,.d (.int .u32 v3.1),.d (.int .i64 (i1 : Int)),.d (.int .u32 v3.2)] ++ us 36)) (fun v3=>⟨[[.rowc 146 0 (List.map (eInt .u32) v1.2)]],[]⟩) (fun _=>rfl) ?_ ?_) h
 refine .cond rfl (fun h2=>?_) (fun h2=>?_)
 refine .region fun e h=>?_
 simp only [seval,EMI,eInt,rmap_set,spD]
 cases h
 simp only [seval,FMI,eInt,rmap_set,spD,Tryz.results159]
 refine .skip fun e h=>?_
 cases h
 simp only [seval,FMI,eInt,rmap_set,spD,Tryz.results159]
 intro v3
 refine Mir.toK (.bind fun e3 q6=>?_)
 replace q6 := gt_ok q6
 refine .regionW fun e h=>regW.alt 3 rfl ?_
 simp only [seval,EMI,w_none,w_eq,eInt,rmap_set,spD]
 refine alt_indexR rfl rfl rfl und_90 sz_146 (row_lo q6.1) (row_hi q6.2 q6.1) (regW.alt 0 rfl ?_)
 simp only [seval,EMI,w_none,w_eq,und_90,sz_146,eInt,rmap_set,spD]
 refine alt_storeR rfl rfl (row_at q6.2) rfl rfl sz_146 rfl (Nat.le_of_ble_eq_true rfl) (regW.of ?_)
 simp only [seval,EMI,w_none,w_eq,sz_146,eInt,rmap_set,spD]
 refine mU e (.region fun e h=>?_) h
 simp only [seval,EMI,eInt,rmap_set,spD]
 cases h
 simp only [seval,FMI,eInt,rmap_set,spD,Tryz.results159,q4]
 intro v1 q7
 refine .seqK (.sR fun e h=>?_)
 simp only [seval,EMI,und_90,q7,eInt,rmap_set,spD]
 refine mU e (.condF rfl (.exit fun e h=>?_)) h
 cases h
 simp only [seval,FMI,eInt,rmap_set,spD,Tryz.results159]
 intro v4
 refine Mir.toK (.seqK (.frz 0 rfl ?_))
 simp only [seval,us_0,us_s,xCA,xNA,and_self,and_true,true_and,and_false,false_and,SZ]
 refine .bind fun y1 h3=>.region fun e h=>?_
 simp only [seval,EMI,eInt,rmap_set,spD]
 refine SpecS.by (r01_trim_spec h3) (by simp only [seval,FMI,eInt,rmap_set,spD]) ?_
 simp only [seval,EMI,eInt,rmap_set,spD]
 refine mU e (.ret fun e h=>?_) h
 cases h
 simp only [seval,FMI,eInt,rmap_set,spD,Tryz.results159]
def r01_Add (a0 : ApiInt) (a1 : ApiInt) : Option ApiInt := if (a0.Neg == a1.Neg) = true then bindO (r01_plus a0.Limbs a1.Limbs) fun (y1 : (List Int))=>bindO (r01_signed a0.Neg y1) fun (y2 : ApiInt)=>some y2 else bindO (r01_compare a0.Limbs a1.Limbs) fun (y3 : Int)=>if (decide (y3 ≥ 0)) = true then bindO (r01_minus a0.Limbs a1.Limbs) fun (y4 : (List Int))=>bindO (r01_signed a0.Neg y4) fun (y5 : ApiInt)=>some y5 else bindO (r01_minus a1.Limbs a0.Limbs) fun (y6 : (List Int))=>bindO (r01_signed a1.Neg y6) fun (y7 : ApiInt)=>some y7
theorem r01_Add_spec {a0 : ApiInt} {a1 : ApiInt} {y : ApiInt} (h : r01_Add a0 a1 = some y) : Spec gP 139 [.agg [.d (.bool a0.Neg),.d (.list (List.map (eInt .u32) a0.Limbs))],.agg [.d (.bool a1.Neg),.d (.list (List.map (eInt .u32) a1.Limbs))]] (.agg [.d (.bool y.Neg),.d (.list (List.map (eInt .u32) y.Limbs))]) := by
 refine spec_mir Tryz.func139 rfl (by kernel_rfl) (by kernel_rfl) (fun y : ApiInt=>.agg [.d (.bool y.Neg),.d (.list (List.map (eInt .u32) y.Limbs))]) ?_ h
 unfold r01_Add
 simp only [List.replicate,List.length,nS,nA,Tryz.ntmps139,SV]
 refine .sR fun e h=>?_
 simp only [seval,EMI,zero_92,eInt]
 refine mU e (.seqK (.sR fun e h=>?_)) h
 simp only [seval,EMI,fld_92_0,sz_4,ag_4,und_4,eInt]
 refine mU e (.cond rfl (fun hb4=>?_) (fun hb4=>?_)) h
 refine .seqK (.bind fun y1 hy5=>.bind fun y2 hy6=>.regionD [] (by kernel_rfl) fun e h=>?_)
 simp only [seval,EMI,SB,fld_92_0,sz_4,ag_4,fld_92_1,sz_90,ag_90,eInt]
 refine Spec.by (r01_plus_spec hy5) (by simp only [seval,FMI,eInt]) ?_
 simp only [seval,EMI,SB,eInt]
 refine Spec.by (r01_signed_spec hy6) (by simp only [seval,FMI,eInt]) ?_
 simp only [seval,EMI,SB,sz_92,eInt]
 refine mU e (.ret fun e h=>?_) h
 cases h
 simp only [seval,FMI,eInt,Tryz.results139,ag_92,sz_92]
 refine .skip (Mir.toK (.seqK (.seqK (.bind fun y3 hy7=>.region fun e h=>?_))))
 simp only [seval,EMI,fld_92_1,sz_90,ag_90,eInt]
 refine SpecS.by (r01_compare_spec hy7) (by simp only [seval,FMI,eInt]) ?_
 simp only [seval,EMI,eInt]
 refine mU e (.cond rfl (fun hb11=>?_) (fun hb11=>?_)) h
 refine .seqK (.bind fun y4 hy12=>.bind fun y5 hy13=>.regionD [] (by kernel_rfl) fun e h=>?_)
 simp only [seval,EMI,SB,fld_92_0,sz_4,ag_4,fld_92_1,sz_90,ag_90,eInt]
 refine Spec.by (r01_minus_spec hy12) (by simp only [seval,FMI,eInt]) ?_
 simp only [seval,EMI,SB,eInt]
 refine Spec.by (r01_signed_spec hy13) (by simp only [seval,FMI,eInt]) ?_
 simp only [seval,EMI,SB,sz_92,eInt]
 refine mU e (.ret fun e h=>?_) h
 cases h
 simp only [seval,FMI,eInt,Tryz.results139,ag_92,sz_92]
 refine .skip (Mir.toK (.seqK (.bind fun y6 hy14=>.bind fun y7 hy15=>.regionD [] (by kernel_rfl) fun e h=>?_)))
 simp only [seval,EMI,SB,fld_92_0,sz_4,ag_4,fld_92_1,sz_90,ag_90,eInt]
 refine Spec.by (r01_minus_spec hy14) (by simp only [seval,FMI,eInt]) ?_
 simp only [seval,EMI,SB,eInt]
 refine Spec.by (r01_signed_spec hy15) (by simp only [seval,FMI,eInt]) ?_
 simp only [seval,EMI,SB,sz_92,eInt]
 refine mU e (.ret fun e h=>?_) h
 cases h
 simp only [seval,FMI,eInt,Tryz.results139,ag_92,sz_92]
def r01_Neg (a0 : ApiInt) : Option ApiInt := bindO (r01_signed (!a0.Neg) a0.Limbs) fun (y1 : ApiInt)=>some y1
theorem r01_Neg_spec {a0 : ApiInt} {y : ApiInt} (h : r01_Neg a0 = some y) : Spec gP 141 [.agg [.d (.bool a0.Neg),.d (.list (List.map (eInt .u32) a0.Limbs))]] (.agg [.d (.bool y.Neg),.d (.list (List.map (eInt .u32) y.Limbs))]) := by
 refine spec_mir Tryz.func141 rfl (by kernel_rfl) (by kernel_rfl) (fun y : ApiInt=>.agg [.d (.bool y.Neg),.d (.list (List.map (eInt .u32) y.Limbs))]) ?_ h
 unfold r01_Neg
 simp only [List.replicate,List.length,nS,nA,Tryz.ntmps141,SV]
 refine .sR fun e h=>?_
 simp only [seval,EMI,zero_92,eInt]
 refine mU e (.seqK (.bind fun y1 hy1=>.region fun e h=>?_)) h
 simp only [seval,EMI,fld_92_0,sz_4,ag_4,fld_92_1,sz_90,ag_90,eInt]
 refine SpecS.by (r01_signed_spec hy1) (by simp only [seval,FMI,eInt]) ?_
 simp only [seval,EMI,sz_92,eInt]
 refine mU e (.ret fun e h=>?_) h
 cases h
 simp only [seval,FMI,eInt,Tryz.results141,ag_92,sz_92]
def r01_Sub (a0 : ApiInt) (a1 : ApiInt) : Option ApiInt := bindO (r01_Neg a1) fun (y1 : ApiInt)=>bindO (r01_Add a0 y1) fun (y2 : ApiInt)=>some y2
theorem r01_Sub_spec {a0 : ApiInt} {a1 : ApiInt} {y : ApiInt} (h : r01_Sub a0 a1 = some y) : Spec gP 138 [.agg [.d (.bool a0.Neg),.d (.list (List.map (eInt .u32) a0.Limbs))],.agg [.d (.bool a1.Neg),.d (.list (List.map (eInt .u32) a1.Limbs))]] (.agg [.d (.bool y.Neg),.d (.list (List.map (eInt .u32) y.Limbs))]) := by
 refine spec_mir Tryz.func138 rfl (by kernel_rfl) (by kernel_rfl) (fun y : ApiInt=>.agg [.d (.bool y.Neg),.d (.list (List.map (eInt .u32) y.Limbs))]) ?_ h
 unfold r01_Sub
 simp only [List.replicate,List.length,nS,nA,Tryz.ntmps138,SV]
 refine .sR fun e h=>?_
 simp only [seval,EMI,zero_92,eInt]
 refine mU e (.seqK (.bind fun y1 hy1=>.bind fun y2 hy2=>.regionD [] (by kernel_rfl) fun e h=>?_)) h
 simp only [seval,EMI,SB,ag_92,sz_92,eInt]
 refine Spec.by (r01_Neg_spec hy1) (by simp only [seval,FMI,eInt]) ?_
 simp only [seval,EMI,SB,eInt]
 refine Spec.by (r01_Add_spec hy2) (by simp only [seval,FMI,eInt]) ?_
 simp only [seval,EMI,SB,sz_92,eInt]
 refine mU e (.ret fun e h=>?_) h
 cases h
 simp only [seval,FMI,eInt,Tryz.results138,ag_92,sz_92]
def r01_times (a0 : (List Int)) (a1 : (List Int)) : Option (List Int) := guardO (decide ((0 : Int) ≤ (IntKind.i64.wrap ((a0.length : Int) + (a1.length : Int))))) ( guardO (okLen (Int.toNat (IntKind.i64.wrap ((a0.length : Int) + (a1.length : Int))))) ( bindO (guardO (okIdx a0) ( rangeX (fun (i1 : Nat) (e1 : Int) (v1 : (List Int))=>bindO (bindO (guardO (okIdx a1) ( rangeX (fun (i2 : Nat) (e2 : Int) (v2 : Int × (List Int))=>bindO (gt v2.2 (IntKind.i64.wrap ((i1 : Int) + (i2 : Int)))) fun (e3 : Int)=>bindO (gt v2.2 (IntKind.i64.wrap ((i1 : Int) + (i2 : Int)))) fun (e4 : Int)=>some (.go (IntKind.u64.wrap (Int.tdiv (IntKind.u64.wrap ((IntKind.u64.wrap (v2.1 + (IntKind.u64.wrap e3))) + (IntKind.u64.wrap ((IntKind.u64.wrap e1) * (IntKind.u64.wrap e2))))) 1000000000),v2.2.set (Int.toNat (IntKind.i64.wrap ((i1 : Int) + (i2 : Int)))) (IntKind.u32.wrap (Int.tmod (IntKind.u64.wrap ((IntKind.u64.wrap (v2.1 + (IntKind.u64.wrap e3))) + (IntKind.u64.wrap ((IntKind.u64.wrap e1) * (IntKind.u64.wrap e2))))) 1000000000))))) (fun (v2 : Int × (List Int))=>some (v2.1,v2.2)) a1 0 (0,v1))) fun (v3 : Int × (List Int))=>bindO (gt v3.2 (IntKind.i64.wrap ((i1 : Int) + (a1.length : Int)))) fun (e5 : Int)=>some (v3.2.set (Int.toNat (IntKind.i64.wrap ((i1 : Int) + (a1.length : Int)))) (IntKind.u32.wrap v3.1))) fun (v4 : (List Int))=>some (.go v4)) (fun (v1 : (List Int))=>some v1) a0 0 (List.replicate (Int.toNat (IntKind.i64.wrap ((a0.length : Int) + (a1.length : Int)))) (0 : Int)))) fun (v5 : (List Int))=>bindO (r01_trim v5) fun (y1 : (List Int))=>some y1))
theorem r01_times_spec {a0 : (List Int)} {a1 : (List Int)} {y : (List Int)} (h : r01_times a0 a1 = some y) : Spec gP 143 [.d (.list (List.map (eInt .u32) a0)),.d (.list (List.map (eInt .u32) a1))] (.d (.list (List.map (eInt .u32) y))) := by
 refine spec_mir Tryz.func143 rfl (by kernel_rfl) (by kernel_rfl) (fun y : (List Int)=>.d (.list (List.map (eInt .u32) y))) ?_ h
 unfold r01_times
 simp only [List.replicate,List.length,nS,nA,Tryz.ntmps143,SV]
 refine .sR fun e h=>?_
 simp only [seval,EMI,eInt,rmap_set,spD]
 refine mU e (.seqK (.guard fun q1=>.guard fun q2=>.regionW fun e h=>regW.alt 5 rfl ?_)) h
 simp only [seval,EMI,w_none,w_eq,und_90,eInt,rmap_set,spD]
 refine alt_makeM (en := (eInt .u32)) (z := 0) rfl rfl app_90 zero_146 rfl rfl (of_decide_eq_true q1) q2 (regW.of ?_)
 simp only [seval,EMI,w_none,w_eq,eInt,rmap_set,spD]
 refine mU e (.seqK (.sR fun e h=>?_)) h
 simp only [seval,EMI,eInt,rmap_set,spD]
 refine mU e (Mir.joinO (fun v5 : (List Int)=>([U,U,U,U,U,.gr 0 0] ++ us 62)) (fun v5=>⟨[[.rowc 146 0 (List.map (eInt .u32) v5)]],[]⟩) (fun _=>rfl) ?_ ?_) h
 refine .block (.guard fun q3=>Mir.range (fun (i1 : Nat) (v1 : (List Int))=>([.d (.list (List.map (eInt .u32) a0)),.d (.list (List.map (eInt .u32) a1)),U,U,U,.gr 0 0,.d (.int .i64 (i1 : Int))] ++ us 61)) (fun i1 v1=>⟨[[.rowc 146 0 (List.map (eInt .u32) v1)]],[]⟩) q3 (fun _ _=>rfl) (by simp only [seval,FMI,eInt,rmap_set,spD,zNI]) (by simp only [seval,FMI,eInt,rmap_set,spD,zNI]) ?_ ?_)
 intro i1 e1 v1 q4
 refine .seqK (.sR fun e h=>?_)
 simp only [seval,EMI,und_90,q4,eInt,rmap_set,spD]
 refine mU e (.condT rfl (.skip (Mir.toK (.seqK (Mir.joinO (fun v4 : (List Int)=>([.d (.list (List.map (eInt .u32) a0)),.d (.list (List.map (eInt .u32) a1)),U,U,U,.gr 0 0,.d (.int .i64 (i1 : Int))] ++ us 61)) (fun v4=>⟨[[.rowc 146 0 (List.map (eInt .u32) v4)]],[]⟩) (fun _=>rfl) ?_ ?_))))) h
 refine .block (.sR fun e h=>?_)
 simp only [seval,EMI,eInt,rmap_set,spD]
 refine mU e (.seqK (.sR fun e h=>?_)) h
 simp only [seval,EMI,eInt,rmap_set,spD]
 refine mU e (Mir.joinO (fun v3 : Int × (List Int)=>([.d (.list (List.map (eInt .u32) a0)),.d (.list (List.map (eInt .u32) a1)),U,U,U,.gr 0 0,.d (.int .i64 (i1 : Int)),.d (.int .u64 v3.1)] ++ us 60)) (fun v3=>⟨[[.rowc 146 0 (List.map (eInt .u32) v3.2)]],[]⟩) (fun _=>rfl) ?_ ?_) h
 refine .block (.guard fun q5=>Mir.range (fun (i2 : Nat) (v2 : Int × (List Int))=>([.d (.list (List.map (eInt .u32) a0)),.d (.list (List.map (eInt .u32) a1)),U,U,U,.gr 0 0,.d (.int .i64 (i1 : Int)),.d (.int .u64 v2.1),.d (.int .i64 (i2 : Int))] ++ us 59)) (fun i2 v2=>⟨[[.rowc 146 0 (List.map (eInt .u32) v2.2)]],[]⟩) q5 (fun _ _=>rfl) (by simp only [seval,FMI,eInt,rmap_set,spD,zNI]) (by simp only [seval,FMI,eInt,rmap_set,spD,zNI]) ?_ ?_)
 intro i2 e2 v2 q6
 refine .seqK (.sR fun e h=>?_)
 simp only [seval,EMI,und_90,q6,eInt,rmap_set,spD]
 refine mU e (.condT rfl (.skip (Mir.toK (.seqK (.block (.seqK (.bind fun e3 q7=>?_))))))) h
 replace q7 := gt_ok q7
 refine Mir.regionS (by kernel_rfl) fun e h=>stW.alt 5 rfl (by kernel_rfl) ?_
 simp only [seval,EMI,w_none,w_eq,eInt,rmap_set,spD]
 refine st_indexR rfl rfl rfl und_90 sz_146 (row_lo q7.1) (row_hi q7.2 q7.1) (stW.alt 0 rfl (by kernel_rfl) ?_)
 simp only [seval,EMI,w_none,w_eq,und_90,sz_146,eInt,rmap_set,spD]
 refine st_loadR rfl rfl (row_at q7.2) (by simp only [↓reduceIte,nA,nL,pt_eq,ag_146,sz_146,dc_cons,dc_nil,SV,eInt] <;> rfl) (stW.of (by kernel_rfl) ?_)
 simp only [seval,EMI,w_none,w_eq,ag_146,sz_146,und_146,und_104,und_90,q4,Int.toNat_natCast,q6,eInt,rmap_set,spD]
 refine mU e (.seqK (.bind fun e4 q8=>?_)) h
 replace q8 := gt_ok q8
 refine .regionW fun e h=>regW.alt 7 rfl ?_
 simp only [seval,EMI,w_none,w_eq,und_104,und_146,eInt,rmap_set,spD]
 refine alt_indexR rfl rfl rfl und_90 sz_146 (row_lo q8.1) (row_hi q8.2 q8.1) (regW.alt 0 rfl ?_)
 simp only [seval,EMI,w_none,w_eq,und_90,sz_146,eInt,rmap_set,spD]
 refine alt_storeR rfl rfl (row_at q8.2) rfl rfl sz_146 rfl (Nat.le_of_ble_eq_true rfl) (regW.of ?_)
 simp only [seval,EMI,w_none,w_eq,sz_146,eInt,rmap_set,spD]
 refine mU e (.region fun e h=>?_) h
 simp only [seval,EMI,eInt,rmap_set,spD]
 refine mU e (.region fun e h=>?_) h
 simp only [seval,EMI,eInt,rmap_set,spD]
 cases h
 simp only [seval,FMI,eInt,rmap_set,spD,Tryz.results143,q6]
 intro v2 q9
 refine .seqK (.sR fun e h=>?_)
 simp only [seval,EMI,und_90,q9,eInt,rmap_set,spD]
 refine mU e (.condF rfl (.exit fun e h=>?_)) h
 cases h
 simp only [seval,FMI,eInt,rmap_set,spD,Tryz.results143]
 intro v3
 refine Mir.toK (.bind fun e5 q10=>?_)
 replace q10 := gt_ok q10
 refine .regionW fun e h=>regW.alt 7 rfl ?_
 simp only [seval,EMI,w_none,w_eq,und_90,und_104,und_146,eInt,rmap_set,spD]
 refine alt_indexR rfl rfl rfl und_90 sz_146 (row_lo q10.1) (row_hi q10.2 q10.1) (regW.alt 0 rfl ?_)
 simp only [seval,EMI,w_none,w_eq,und_90,sz_146,eInt,rmap_set,spD]
 refine alt_storeR rfl rfl (row_at q10.2) rfl rfl sz_146 rfl (Nat.le_of_ble_eq_true rfl) (regW.of ?_)
 simp only [seval,EMI,w_none,w_eq,sz_146,eInt,rmap_set,spD]
 cases h
 simp only [seval,FMI,eInt,rmap_set,spD,Tryz.results143]
 intro v4
 refine Mir.toK (.region fun e h=>?_)
 simp only [seval,EMI,eInt,rmap_set,spD]
 cases h
 simp only [seval,FMI,eInt,rmap_set,spD,Tryz.results143,q4]
 intro v1 q11
 refine .seqK (.sR fun e h=>?_)
 simp only [seval,EMI,und_90,q11,eInt,rmap_set,spD]
 refine mU e (.condF rfl (.exit fun e h=>?_)) h
 cases h
 simp only [seval,FMI,eInt,rmap_set,spD,Tryz.results143]
 intro v5
 refine Mir.toK (.seqK (.frz 0 rfl ?_))
 simp only [seval,us_0,us_s,xCA,xNA,and_self,and_true,true_and,and_false,false_and,SZ]
 refine .bind fun y1 h1=>.region fun e h=>?_
 simp only [seval,EMI,eInt,rmap_set,spD]
 refine SpecS.by (r01_trim_spec h1) (by simp only [seval,FMI,eInt,rmap_set,spD]) ?_
 simp only [seval,EMI,eInt,rmap_set,spD]
 refine mU e (.ret fun e h=>?_) h
 cases h
 simp only [seval,FMI,eInt,rmap_set,spD,Tryz.results143]
def r01_Mul (a0 : ApiInt) (a1 : ApiInt) : Option ApiInt := bindO (r01_times a0.Limbs a1.Limbs) fun (y1 : (List Int))=>bindO (r01_signed (!(a0.Neg == a1.Neg)) y1) fun (y2 : ApiInt)=>some y2
theorem r01_Mul_spec {a0 : ApiInt} {a1 : ApiInt} {y : ApiInt} (h : r01_Mul a0 a1 = some y) : Spec gP 108 [.agg [.d (.bool a0.Neg),.d (.list (List.map (eInt .u32) a0.Limbs))],.agg [.d (.bool a1.Neg),.d (.list (List.map (eInt .u32) a1.Limbs))]] (.agg [.d (.bool y.Neg),.d (.list (List.map (eInt .u32) y.Limbs))]) := by
 refine spec_mir Tryz.func108 rfl (by kernel_rfl) (by kernel_rfl) (fun y : ApiInt=>.agg [.d (.bool y.Neg),.d (.list (List.map (eInt .u32) y.Limbs))]) ?_ h
 unfold r01_Mul
 simp only [List.replicate,List.length,nS,nA,Tryz.ntmps108,SV]
 refine .sR fun e h=>?_
 simp only [seval,EMI,zero_92,eInt]
 refine mU e (.seqK (.bind fun y1 hy1=>.bind fun y2 hy2=>.regionD [] (by kernel_rfl) fun e h=>?_)) h
 simp only [seval,EMI,SB,fld_92_0,sz_4,ag_4,und_4,fld_92_1,sz_90,ag_90,eInt]
 refine Spec.by (r01_times_spec hy1) (by simp only [seval,FMI,eInt]) ?_
 simp only [seval,EMI,SB,eInt]
 refine Spec.by (r01_signed_spec hy2) (by simp only [seval,FMI,eInt]) ?_
 simp only [seval,EMI,SB,sz_92,eInt]
 refine mU e (.ret fun e h=>?_) h
 cases h
 simp only [seval,FMI,eInt,Tryz.results108,ag_92,sz_92]
def r01_short (a0 : (List Int)) : Option Int := bindO (loopX (fun (v1 : Int × Int)=>if (decide (v1.2 ≥ 0)) = true then bindO (gt a0 v1.2) fun (e1 : Int)=>some (.go (IntKind.u64.wrap ((IntKind.u64.wrap (v1.1 * 1000000000)) + (IntKind.u64.wrap e1)),IntKind.i64.wrap (v1.2 - 1))) else some (.ret v1.1)) fuel (0,IntKind.i64.wrap ((a0.length : Int) - 1))) fun (v2 : Int)=>some v2
theorem r01_short_spec {a0 : (List Int)} {y : Int} (h : r01_short a0 = some y) : Spec gP 136 [.d (.list (List.map (eInt .u32) a0))] (.d (.int .u64 y)) := by
 refine spec_mir Tryz.func136 rfl (by kernel_rfl) (by kernel_rfl) (fun y : Int=>.d (.int .u64 y)) ?_ h
 unfold r01_short
 simp only [List.replicate,List.length,nS,nA,Tryz.ntmps136,SV]
 refine .sR fun e h=>?_
 simp only [seval,EMI,eInt]
 refine mU e (.sR fun e h=>?_) h
 simp only [seval,EMI,eInt]
 refine mU e (.seqK (.sR fun e h=>?_)) h
 simp only [seval,EMI,und_90,eInt]
 refine mU e (Mir.joinO (fun v2 : Int=>([U,U,U,.d (.int .u64 v2)] ++ us 17)) (fun v2=>⟨[],[]⟩) (fun _=>rfl) ?_ ?_) h
 refine .block (Mir.loop (fun v1 : Int × Int=>([.d (.list (List.map (eInt .u32) a0)),U,U,.d (.int .u64 v1.1),.d (.int .i64 v1.2)] ++ us 16)) (fun v1=>⟨[],[]⟩) (fun _=>rfl) (by simp only [seval,FMI,eInt]) (by simp only [seval,FMI,eInt]) fun v1=>.seqK (.sR fun e h=>?_))
 simp only [seval,EMI,eInt]
 refine mU e (.cond rfl (fun hb22=>?_) (fun hb22=>?_)) h
 refine .skip (Mir.toK (.seqK (.block (.bind fun e1 q24=>?_))))
 replace q24 := gt_ok q24
 refine .region fun e h=>?_
 simp only [seval,EMI,und_90,sz_146,q24,ag_146,und_146,und_104,eInt]
 refine mU e (.region fun e h=>?_) h
 simp only [seval,EMI,eInt]
 cases h
 simp only [seval,FMI,eInt,Tryz.results136]
 refine .exit fun e h=>?_
 cases h
 simp only [seval,FMI,eInt,Tryz.results136]
 intro v2
 refine Mir.toK (.sR fun e h=>?_)
 simp only [seval,EMI,eInt]
 refine mU e (.ret fun e h=>?_) h
 cases h
 simp only [seval,FMI,eInt,Tryz.results136]
def r01_limbs (a0 : Int) : Option (List Int) := bindO (loopX (fun (v1 : Int × (List Int))=>if (decide (v1.1 > 0)) = true then guardO (okLen (v1.2.length + 1)) ( some (.go (IntKind.u64.wrap (Int.tdiv v1.1 1000000000),v1.2 ++ [IntKind.u32.wrap (Int.tmod v1.1 1000000000)]))) else some (.ret v1.2)) fuel (a0,[])) fun (v2 : (List Int))=>some v2
theorem r01_limbs_spec {a0 : Int} {y : (List Int)} (h : r01_limbs a0 = some y) : Spec gP 152 [.d (.int .u64 a0)] (.d (.list (List.map (eInt .u32) y))) := by
 refine spec_mir Tryz.func152 rfl (by kernel_rfl) (by kernel_rfl) (fun y : (List Int)=>.d (.list (List.map (eInt .u32) y))) ?_ h
 unfold r01_limbs
 simp only [List.replicate,List.length,nS,nA,Tryz.ntmps152,SV]
 refine .sR fun e h=>?_
 simp only [seval,EMI,eInt]
 refine mU e (.sR fun e h=>?_) h
 simp only [seval,EMI,eInt]
 refine mU e (.seqK (.gh [.slot 3 146] rfl (Mir.joinO (fun v2 : (List Int)=>([U,U,U,.own 0 (List.map (eInt .u32) v2)] ++ us 11)) (fun v2=>⟨[],[(146,v2.length)]⟩) (fun _=>rfl) ?_ ?_))) h
 refine .block (Mir.loop (fun v1 : Int × (List Int)=>([.d (.int .u64 v1.1),U,U,.own 0 (List.map (eInt .u32) v1.2)] ++ us 11)) (fun v1=>⟨[],[(146,v1.2.length)]⟩) (fun _=>rfl) (by simp only [seval,FMI,eInt]) (by simp only [seval,FMI,eInt]) fun v1=>.seqK (.sR fun e h=>?_))
 simp only [seval,EMI,eInt]
 refine mU e (.cond rfl (fun hb25=>?_) (fun hb25=>?_)) h
 refine .skip (Mir.toK (.block (.seqK (.guard fun q26=>.region fun e h=>?_))))
 simp only [seval,EMI,und_104,und_146,und_90,sz_146,zero_146,(oL 1),app_90,al_eInt,q26,eInt]
 refine mU e (.region fun e h=>?_) h
 simp only [seval,EMI,eInt]
 cases h
 simp only [seval,FMI,eInt,Tryz.results152]
 refine .exit fun e h=>?_
 cases h
 simp only [seval,FMI,eInt,Tryz.results152]
 intro v2
 refine Mir.toK (.sR fun e h=>?_)
 simp only [seval,EMI,eInt]
 refine mU e (.ret fun e h=>?_) h
 cases h
 simp only [seval,FMI,eInt,Tryz.results152]
def r01_by (a0 : (List Int)) (a1 : Int) : Option (List Int) := bindO (r01_trim [a1]) fun (y1 : (List Int))=>bindO (r01_times a0 y1) fun (y2 : (List Int))=>some y2
theorem r01_by_spec {a0 : (List Int)} {a1 : Int} {y : (List Int)} (h : r01_by a0 a1 = some y) : Spec gP 158 [.d (.list (List.map (eInt .u32) a0)),.d (.int .u32 a1)] (.d (.list (List.map (eInt .u32) y))) := by
 refine spec_mir Tryz.func158 rfl (by kernel_rfl) (by kernel_rfl) (fun y : (List Int)=>.d (.list (List.map (eInt .u32) y))) ?_ h
 unfold r01_by
 simp only [List.replicate,List.length,nS,nA,Tryz.ntmps158,SV]
 refine .sR fun e h=>?_
 simp only [seval,EMI,eInt]
 refine mU e (.seqK (.bind fun y1 hy1=>.bind fun y2 hy2=>.region fun e h=>?_)) h
 simp only [seval,EMI,und_90,sz_146,zero_146,(oL 1),eInt]
 refine SpecS.by (r01_trim_spec hy1) (by simp only [seval,FMI,eInt]) ?_
 simp only [seval,EMI,eInt]
 refine SpecS.by (r01_times_spec hy2) (by simp only [seval,FMI,eInt]) ?_
 simp only [seval,EMI,eInt]
 refine mU e (.ret fun e h=>?_) h
 cases h
 simp only [seval,FMI,eInt,Tryz.results158]
def r01_parts (a0 : (List Int)) (a1 : (List Int)) : Option ((List Int) × (List Int)) := if ((decide ((a0.length : Int) ≤ 2)) && (decide ((a1.length : Int) ≤ 2))) = true then bindO (r01_short a0) fun (y1 : Int)=>bindO (r01_short a1) fun (y2 : Int)=>guardO (!(y2 == 0)) ( bindO (r01_limbs (IntKind.u64.wrap (Int.tdiv y1 y2))) fun (y3 : (List Int))=>guardO (!(y2 == 0)) ( bindO (r01_limbs (Int.tmod y1 y2)) fun (y4 : (List Int))=>some (y3,y4))) else bindO (gt a1 (IntKind.i64.wrap ((a1.length : Int) - 1))) fun (e1 : Int)=>guardO (!((IntKind.u64.wrap ((IntKind.u64.wrap e1) + 1)) == 0)) ( bindO (r01_by a1 (IntKind.u32.wrap (IntKind.u64.wrap (Int.tdiv 1000000000 (IntKind.u64.wrap ((IntKind.u64.wrap e1) + 1)))))) fun (y5 : (List Int))=>bindO (gt y5 (IntKind.i64.wrap ((y5.length : Int) - 1))) fun (e2 : Int)=>guardO (decide ((0 : Int) ≤ (IntKind.i64.wrap ((a0.length : Int) + 1)))) ( guardO (okLen (Int.toNat (IntKind.i64.wrap ((a0.length : Int) + 1)))) ( bindO (r01_by a0 (IntKind.u32.wrap (IntKind.u64.wrap (Int.tdiv 1000000000 (IntKind.u64.wrap ((IntKind.u64.wrap e1) + 1)))))) fun (y6 : (List Int))=>guardO (decide ((0 : Int) ≤ (0 : Int) ∧ (0 : Int) ≤ (y6.length : Int) ∧ (y6.length : Int) ≤ (((List.replicate (Int.toNat (IntKind.i64.wrap ((a0.length : Int) + 1))) (0 : Int)).length : Nat) : Int))) ( bindO (loopX (fun (v1 : (List Int) × Int × (List Int))=>if (decide (v1.2.1 ≥ 0)) = true then bindO (bindO (gt y6 v1.2.1) fun (e3 : Int)=>guardO (okLen (1 + v1.1.length)) ( bindO (r01_trim ([e3] ++ v1.1)) fun (y7 : (List Int))=>bindO (if (decide ((y7.length : Int) > (y5.length : Int))) = true then bindO (gt y7 (y5.length : Int)) fun (e4 : Int)=>some (IntKind.u64.wrap ((IntKind.u64.wrap e4) * 1000000000)) else some 0) fun (v2 : Int)=>bindO (if (decide ((y7.length : Int) ≥ (y5.length : Int))) = true then bindO (gt y7 (IntKind.i64.wrap ((y5.length : Int) - 1))) fun (e5 : Int)=>some (IntKind.u64.wrap (v2 + (IntKind.u64.wrap e5))) else some v2) fun (v3 : Int)=>guardO (!((IntKind.u64.wrap e2) == 0)) ( bindO (if (decide ((IntKind.u64.wrap (Int.tdiv v3 (IntKind.u64.wrap e2))) > 999999999)) = true then some 999999999 else some (IntKind.u64.wrap (Int.tdiv v3 (IntKind.u64.wrap e2)))) fun (v4 : Int)=>bindO (r01_by y5 (IntKind.u32.wrap v4)) fun (y8 : (List Int))=>bindO (loopX (fun (v5 : Int × (List Int))=>bindO (r01_compare v5.2 y7) fun (y9 : Int)=>if (decide (y9 > 0)) = true then bindO (r01_minus v5.2 y5) fun (y10 : (List Int))=>some (.go (IntKind.u64.wrap (v5.1 - 1),y10)) else some (.ret (v5.1,v5.2))) fuel (v4,y8)) fun (v6 : Int × (List Int))=>bindO (r01_minus y7 v6.2) fun (y11 : (List Int))=>guardO (decide (0 ≤ v1.2.1 ∧ v1.2.1 < (((Int.toNat (y6.length : Int)) - 0 : Nat) : Int))) ( bindO (gt v1.2.2 ((0 + Int.toNat v1.2.1 : Nat) : Int)) fun (e6 : Int)=>some (y11,v1.2.2.set ((0 + Int.toNat v1.2.1)) (IntKind.u32.wrap v6.1)))))) fun (v7 : (List Int) × (List Int))=>some (.go (v7.1,IntKind.i64.wrap (v1.2.1 - 1),v7.2)) else some (.ret (v1.1,v1.2.2))) fuel ([],IntKind.i64.wrap ((y6.length : Int) - 1),List.replicate (Int.toNat (IntKind.i64.wrap ((a0.length : Int) + 1))) (0 : Int))) fun (v8 : (List Int) × (List Int))=>guardO (decide ((0 : Int) ≤ (v8.1.length : Int))) ( guardO (okLen (Int.toNat (v8.1.length : Int))) ( bindO (loopX (fun (v9 : Int × Int × (List Int))=>if (decide (v9.2.1 ≥ 0)) = true then bindO (gt v8.1 v9.2.1) fun (e7 : Int)=>guardO (!((IntKind.u64.wrap (IntKind.u32.wrap (IntKind.u64.wrap (Int.tdiv 1000000000 (IntKind.u64.wrap ((IntKind.u64.wrap e1) + 1)))))) == 0)) ( bindO (gt v9.2.2 v9.2.1) fun (e8 : Int)=>guardO (!((IntKind.u64.wrap (IntKind.u32.wrap (IntKind.u64.wrap (Int.tdiv 1000000000 (IntKind.u64.wrap ((IntKind.u64.wrap e1) + 1)))))) == 0)) ( some (.go (Int.tmod (IntKind.u64.wrap ((IntKind.u64.wrap (v9.1 * 1000000000)) + (IntKind.u64.wrap e7))) (IntKind.u64.wrap (IntKind.u32.wrap (IntKind.u64.wrap (Int.tdiv 1000000000 (IntKind.u64.wrap ((IntKind.u64.wrap e1) + 1)))))),IntKind.i64.wrap (v9.2.1 - 1),v9.2.2.set (Int.toNat v9.2.1) (IntKind.u32.wrap (IntKind.u64.wrap (Int.tdiv (IntKind.u64.wrap ((IntKind.u64.wrap (v9.1 * 1000000000)) + (IntKind.u64.wrap e7))) (IntKind.u64.wrap (IntKind.u32.wrap (IntKind.u64.wrap (Int.tdiv 1000000000 (IntKind.u64.wrap ((IntKind.u64.wrap e1) + 1))))))))))))) else some (.ret v9.2.2)) fuel (0,IntKind.i64.wrap ((v8.1.length : Int) - 1),List.replicate (Int.toNat (v8.1.length : Int)) (0 : Int))) fun (v10 : (List Int))=>guardO (decide (0 + ((Int.toNat (y6.length : Int)) - 0) ≤ v8.2.length)) ( bindO (r01_trim (List.take ((Int.toNat (y6.length : Int)) - 0) (List.drop (0) v8.2))) fun (y12 : (List Int))=>bindO (r01_trim v10) fun (y13 : (List Int))=>some (y12,y13))))))))
theorem r01_parts_spec {a0 : (List Int)} {a1 : (List Int)} {y : (List Int) × (List Int)} (h : r01_parts a0 a1 = some y) : Spec gP 137 [.d (.list (List.map (eInt .u32) a0)),.d (.list (List.map (eInt .u32) a1))] (.tuple [.d (.list (List.map (eInt .u32) y.1)),.d (.list (List.map (eInt .u32) y.2))]) := by
 refine spec_mir Tryz.func137 rfl (by kernel_rfl) (by kernel_rfl) (fun y : (List Int) × (List Int)=>.tuple [.d (.list (List.map (eInt .u32) y.1)),.d (.list (List.map (eInt .u32) y.2))]) ?_ h
 unfold r01_parts
 simp only [List.replicate,List.length,nS,nA,Tryz.ntmps137,SV]
 refine .sR fun e h=>?_
 simp only [seval,EMI,eInt,rmap_set,spD]
 refine mU e (.seqK (.seqK (.joinV ([.d (.list (List.map (eInt .u32) a0)),.d (.list (List.map (eInt .u32) a1)),U,U,U,U,U,U,U,U,U,U,U,U,U,U,U,U,U,U,U,U,U,U,U,U,U,U,.d (.bool ((decide ((a0.length : Int) ≤ 2)) && (decide ((a1.length : Int) ≤ 2))))] ++ us 144) ⟨[],[]⟩ rfl ?_ ?_))) h
 refine SWs.region ?_
 rcases Bool.eq_false_or_eq_true (decide ((a0.length : Int) ≤ 2)) with hb1 | hb1
 simp only [seval,EMI,SL,PB,und_90,hb1,eInt,rmap_set,spD]
 simp only [seval,EMI,SL,PB,und_90,hb1,eInt,rmap_set,spD]
 refine Mir.toK (.cond rfl (fun hb9=>?_) (fun hb9=>?_))
 refine .seqK (.bind fun y1 hy10=>.bind fun y2 hy11=>.region fun e h=>?_)
 simp only [seval,EMI,eInt,rmap_set,spD]
 refine SpecS.by (r01_short_spec hy10) (by simp only [seval,FMI,eInt,rmap_set,spD]) ?_
 simp only [seval,EMI,eInt,rmap_set,spD]
 refine SpecS.by (r01_short_spec hy11) (by simp only [seval,FMI,eInt,rmap_set,spD]) ?_
 simp only [seval,EMI,eInt,rmap_set,spD]
 refine mU e (.seqK (.guard fun q12=>?_)) h
 replace q12 := ne_of q12
 refine .bind fun y3 hy13=>.guard fun q14=>?_
 replace q14 := ne_of q14
 refine .bind fun y4 hy15=>.regionD [] (by kernel_rfl) fun e h=>?_
 simp only [seval,EMI,SB,q12,eInt,rmap_set,spD]
 refine Spec.by (r01_limbs_spec hy13) (by simp only [seval,FMI,eInt,rmap_set,spD]) ?_
 simp only [seval,EMI,SB,q14,eInt,rmap_set,spD]
 refine Spec.by (r01_limbs_spec hy15) (by simp only [seval,FMI,eInt,rmap_set,spD]) ?_
 simp only [seval,EMI,SB,eInt,rmap_set,spD]
 refine mU e (.ret fun e h=>?_) h
 cases h
 simp only [seval,FMI,eInt,rmap_set,spD,Tryz.results137]
 refine .skip (Mir.toK (.seqK (.bind fun e1 q16=>?_)))
 replace q16 := gt_ok q16
 refine .guard fun q17=>?_
 replace q17 := ne_of q17
 refine .region fun e h=>?_
 simp only [seval,EMI,und_90,sz_146,q16,ag_146,und_146,und_104,q17,eInt,rmap_set,spD]
 refine mU e (.seqK (.bind fun y5 hy18=>.region fun e h=>?_)) h
 simp only [seval,EMI,eInt,rmap_set,spD]
 refine SpecS.by (r01_by_spec hy18) (by simp only [seval,FMI,eInt,rmap_set,spD]) ?_
 simp only [seval,EMI,eInt,rmap_set,spD]
 refine mU e (.seqK (.bind fun e2 q19=>?_)) h
 replace q19 := gt_ok q19
 refine .region fun e h=>?_
 simp only [seval,EMI,und_90,sz_146,q19,ag_146,und_146,und_104,eInt,rmap_set,spD]
 refine mU e (.sR fun e h=>?_) h
 simp only [seval,EMI,eInt,rmap_set,spD]
 refine mU e (.seqK (.guard fun q20=>.guard fun q21=>.regionW fun e h=>regW.alt 3 rfl ?_)) h
 simp only [seval,EMI,w_none,w_eq,und_90,eInt,rmap_set,spD]
 refine alt_makeM (en := (eInt .u32)) (z := 0) rfl rfl app_90 zero_146 rfl rfl (of_decide_eq_true q20) q21 (regW.of ?_)
 simp only [seval,EMI,w_none,w_eq,eInt,rmap_set,spD]
 refine mU e (.seqK (.bind fun y6 hy22=>.region fun e h=>?_)) h
 simp only [seval,EMI,eInt,rmap_set,spD]
 refine SpecS.by (r01_by_spec hy22) (by simp only [seval,FMI,eInt,rmap_set,spD]) ?_
 simp only [seval,EMI,eInt,rmap_set,spD]
 refine mU e (.seqK (.guard fun q23=>?_)) h
 replace q23 := gsl_of q23
 refine .regionW fun e h=>regW.alt 3 rfl ?_
 simp only [seval,EMI,w_none,w_eq,und_90,eInt,rmap_set,spD]
 refine alt_sliceR (l := 0) (h := Int.toNat (y6.length : Int)) rfl rfl und_90 sz_146 (by simp only [seval,EMI,bd_some,bd_none,Option.map_some,Option.map_none,lm,q23.1,q23.2.1]) (by simp only [seval,EMI,bd_some,bd_none,Option.map_some,Option.map_none,lm,q23.1,q23.2.1]) (Nat.zero_le _) (by rw [lm]; exact q23.2.2.2) (regW.of ?_)
 simp only [seval,EMI,w_none,w_eq,und_90,eInt,rmap_set,spD]
 refine mU e (.seqK (.sR fun e h=>?_)) h
 simp only [seval,EMI,und_90,eInt,rmap_set,spD]
 refine mU e (Mir.joinO (fun v8 : (List Int) × (List Int)=>([U,U,U,U,U,U,U,U,.d (.int .u32 (IntKind.u32.wrap (IntKind.u64.wrap (Int.tdiv 1000000000 (IntKind.u64.wrap ((IntKind.u64.wrap e1) + 1)))))),U,U,.d (.list (List.map (eInt .u32) v8.1)),.gs 0 0 0 ((Int.toNat (y6.length : Int)) - 0)] ++ us 160)) (fun v8=>⟨[[.rowc 146 0 (List.map (eInt .u32) v8.2)]],[]⟩) (fun _=>rfl) ?_ ?_) h
 refine .block (Mir.loop (fun v1 : (List Int) × Int × (List Int)=>([U,U,U,U,U,U,U,U,.d (.int .u32 (IntKind.u32.wrap (IntKind.u64.wrap (Int.tdiv 1000000000 (IntKind.u64.wrap ((IntKind.u64.wrap e1) + 1)))))),.d (.list (List.map (eInt .u32) y5)),.d (.int .u64 (IntKind.u64.wrap e2)),.d (.list (List.map (eInt .u32) v1.1)),.gs 0 0 0 ((Int.toNat (y6.length : Int)) - 0),.d (.list (List.map (eInt .u32) y6)),.d (.int .i64 v1.2.1)] ++ us 158)) (fun v1=>⟨[[.rowc 146 0 (List.map (eInt .u32) v1.2.2)]],[]⟩) (fun _=>rfl) (by simp only [seval,FMI,eInt,rmap_set,spD]) (by simp only [seval,FMI,eInt,rmap_set,spD]) fun v1=>.seqK (.sR fun e h=>?_))
 simp only [seval,EMI,eInt,rmap_set,spD]
 refine mU e (.cond rfl (fun h2=>?_) (fun h2=>?_)) h
 refine .skip (Mir.toK (.seqK (Mir.joinO (fun v7 : (List Int) × (List Int)=>([U,U,U,U,U,U,U,U,.d (.int .u32 (IntKind.u32.wrap (IntKind.u64.wrap (Int.tdiv 1000000000 (IntKind.u64.wrap ((IntKind.u64.wrap e1) + 1)))))),.d (.list (List.map (eInt .u32) y5)),.d (.int .u64 (IntKind.u64.wrap e2)),.d (.list (List.map (eInt .u32) v7.1)),.gs 0 0 0 ((Int.toNat (y6.length : Int)) - 0),.d (.list (List.map (eInt .u32) y6)),.d (.int .i64 v1.2.1)] ++ us 158)) (fun v7=>⟨[[.rowc 146 0 (List.map (eInt .u32) v7.2)]],[]⟩) (fun _=>rfl) ?_ ?_)))
 refine .block (.seqK (.bind fun e3 q1=>?_))
 replace q1 := gt_ok q1
 refine .guard fun q2=>.bind fun y7 h3=>.regionW fun e h=>regW.alt 4 rfl ?_
 simp only [seval,EMI,w_none,w_eq,und_90,sz_146,q1,ag_146,eInt,rmap_set,spD]
 refine alt_litOwn (es := List.map (eInt .u32) [e3]) app_90 (by simp only [seval,EMI,und_90,sz_146,zero_146,(oL 1),eInt,rmap_set,spD]) (by decide) (regW.of ?_)
 simp only [seval,EMI,w_none,w_eq,und_90,sz_146,zero_146,(oL 1),app_90,al_eInt,q2,eInt,rmap_set,spD]
 refine SpecS.by (r01_trim_spec h3) (by simp only [seval,FMI,eInt,rmap_set,spD]) ?_
 simp only [seval,EMI,w_none,w_eq,eInt,rmap_set,spD]
 refine mU e (.sR fun e h=>?_) h
 simp only [seval,EMI,eInt,rmap_set,spD]
 refine mU e (.seqK (.sR fun e h=>?_)) h
 simp only [seval,EMI,und_90,eInt,rmap_set,spD]
 refine mU e (Mir.joinO (fun v2 : Int=>([U,U,U,U,U,U,U,U,.d (.int .u32 (IntKind.u32.wrap (IntKind.u64.wrap (Int.tdiv 1000000000 (IntKind.u64.wrap ((IntKind.u64.wrap e1) + 1)))))),.d (.list (List.map (eInt .u32) y5)),.d (.int .u64 (IntKind.u64.wrap e2)),.d (.list (List.map (eInt .u32) y7)),.gs 0 0 0 ((Int.toNat (y6.length : Int)) - 0),.d (.list (List.map (eInt .u32) y6)),.d (.int .i64 v1.2.1),.d (.int .u64 v2)] ++ us 157)) (fun v2=>⟨[[.rowc 146 0 (List.map (eInt .u32) v1.2.2)]],[(146,1 + v1.1.length)]⟩) (fun _=>rfl) ?_ ?_) h
 refine .cond rfl (fun h4=>?_) (fun h4=>?_)
 refine .bind fun e4 q3=>?_
 replace q3 := gt_ok q3
 refine .region fun e h=>?_
 simp only [seval,EMI,und_90,sz_146,q3,ag_146,und_146,und_104,eInt,rmap_set,spD]
 cases h
 simp only [seval,FMI,eInt,rmap_set,spD,Tryz.results137]
 refine .skip fun e h=>?_
 cases h
 simp only [seval,FMI,eInt,rmap_set,spD,Tryz.results137]
 intro v2
 refine Mir.toK (.seqK (.sR fun e h=>?_))
 simp only [seval,EMI,und_90,eInt,rmap_set,spD]
 refine mU e (Mir.joinO (fun v3 : Int=>([U,U,U,U,U,U,U,U,.d (.int .u32 (IntKind.u32.wrap (IntKind.u64.wrap (Int.tdiv 1000000000 (IntKind.u64.wrap ((IntKind.u64.wrap e1) + 1)))))),.d (.list (List.map (eInt .u32) y5)),.d (.int .u64 (IntKind.u64.wrap e2)),.d (.list (List.map (eInt .u32) y7)),.gs 0 0 0 ((Int.toNat (y6.length : Int)) - 0),.d (.list (List.map (eInt .u32) y6)),.d (.int .i64 v1.2.1),.d (.int .u64 v3)] ++ us 157)) (fun v3=>⟨[[.rowc 146 0 (List.map (eInt .u32) v1.2.2)]],[(146,1 + v1.1.length)]⟩) (fun _=>rfl) ?_ ?_) h
 refine .cond rfl (fun h5=>?_) (fun h5=>?_)
 refine .bind fun e5 q4=>?_
 replace q4 := gt_ok q4
 refine .region fun e h=>?_
 simp only [seval,EMI,und_90,sz_146,q4,ag_146,und_146,und_104,eInt,rmap_set,spD]
 cases h
 simp only [seval,FMI,eInt,rmap_set,spD,Tryz.results137]
 refine .skip fun e h=>?_
 cases h
 simp only [seval,FMI,eInt,rmap_set,spD,Tryz.results137]
 intro v3
 refine Mir.toK (.seqK (.guard fun q5=>?_))
 replace q5 := ne_of q5
 refine .region fun e h=>?_
 simp only [seval,EMI,q5,eInt,rmap_set,spD]
 refine mU e (.seqK (.sR fun e h=>?_)) h
 simp only [seval,EMI,eInt,rmap_set,spD]
 refine mU e (Mir.joinO (fun v4 : Int=>([U,U,U,U,U,U,U,U,.d (.int .u32 (IntKind.u32.wrap (IntKind.u64.wrap (Int.tdiv 1000000000 (IntKind.u64.wrap ((IntKind.u64.wrap e1) + 1)))))),.d (.list (List.map (eInt .u32) y5)),.d (.int .u64 (IntKind.u64.wrap e2)),.d (.list (List.map (eInt .u32) y7)),.gs 0 0 0 ((Int.toNat (y6.length : Int)) - 0),.d (.list (List.map (eInt .u32) y6)),.d (.int .i64 v1.2.1),U,.d (.int .u64 v4)] ++ us 156)) (fun v4=>⟨[[.rowc 146 0 (List.map (eInt .u32) v1.2.2)]],[(146,1 + v1.1.length)]⟩) (fun _=>rfl) ?_ ?_) h
 refine .cond rfl (fun h6=>?_) (fun h6=>?_)
 refine .region fun e h=>?_
 simp only [seval,EMI,eInt,rmap_set,spD]
 cases h
 simp only [seval,FMI,eInt,rmap_set,spD,Tryz.results137]
 refine .skip fun e h=>?_
 cases h
 simp only [seval,FMI,eInt,rmap_set,spD,Tryz.results137]
 intro v4
 refine Mir.toK (.seqK (.bind fun y8 h7=>.region fun e h=>?_))
 simp only [seval,EMI,und_104,und_146,eInt,rmap_set,spD]
 refine SpecS.by (r01_by_spec h7) (by simp only [seval,FMI,eInt,rmap_set,spD]) ?_
 simp only [seval,EMI,eInt,rmap_set,spD]
 refine mU e (.seqK (Mir.joinO (fun v6 : Int × (List Int)=>([U,U,U,U,U,U,U,U,.d (.int .u32 (IntKind.u32.wrap (IntKind.u64.wrap (Int.tdiv 1000000000 (IntKind.u64.wrap ((IntKind.u64.wrap e1) + 1)))))),.d (.list (List.map (eInt .u32) y5)),.d (.int .u64 (IntKind.u64.wrap e2)),.d (.list (List.map (eInt .u32) y7)),.gs 0 0 0 ((Int.toNat (y6.length : Int)) - 0),.d (.list (List.map (eInt .u32) y6)),.d (.int .i64 v1.2.1),U,.d (.int .u64 v6.1),.d (.list (List.map (eInt .u32) v6.2))] ++ us 155)) (fun v6=>⟨[[.rowc 146 0 (List.map (eInt .u32) v1.2.2)]],[(146,1 + v1.1.length)]⟩) (fun _=>rfl) ?_ ?_)) h
 refine .block (Mir.loop (fun v5 : Int × (List Int)=>([U,U,U,U,U,U,U,U,.d (.int .u32 (IntKind.u32.wrap (IntKind.u64.wrap (Int.tdiv 1000000000 (IntKind.u64.wrap ((IntKind.u64.wrap e1) + 1)))))),.d (.list (List.map (eInt .u32) y5)),.d (.int .u64 (IntKind.u64.wrap e2)),.d (.list (List.map (eInt .u32) y7)),.gs 0 0 0 ((Int.toNat (y6.length : Int)) - 0),.d (.list (List.map (eInt .u32) y6)),.d (.int .i64 v1.2.1),U,.d (.int .u64 v5.1),.d (.list (List.map (eInt .u32) v5.2))] ++ us 155)) (fun v5=>⟨[[.rowc 146 0 (List.map (eInt .u32) v1.2.2)]],[(146,1 + v1.1.length)]⟩) (fun _=>rfl) (by simp only [seval,FMI,eInt,rmap_set,spD]) (by simp only [seval,FMI,eInt,rmap_set,spD]) fun v5=>.seqK (.seqK (.bind fun y9 h8=>.region fun e h=>?_)))
 simp only [seval,EMI,eInt,rmap_set,spD]
 refine SpecS.by (r01_compare_spec h8) (by simp only [seval,FMI,eInt,rmap_set,spD]) ?_
 simp only [seval,EMI,eInt,rmap_set,spD]
 refine mU e (.cond rfl (fun h9=>?_) (fun h9=>?_)) h
 refine .skip (Mir.toK (.block (.sR fun e h=>?_)))
 simp only [seval,EMI,eInt,rmap_set,spD]
 refine mU e (.bind fun y10 h10=>.region fun e h=>?_) h
 simp only [seval,EMI,eInt,rmap_set,spD]
 refine SpecS.by (r01_minus_spec h10) (by simp only [seval,FMI,eInt,rmap_set,spD]) ?_
 simp only [seval,EMI,eInt,rmap_set,spD]
 cases h
 simp only [seval,FMI,eInt,rmap_set,spD,Tryz.results137]
 refine .exit fun e h=>?_
 cases h
 simp only [seval,FMI,eInt,rmap_set,spD,Tryz.results137]
 intro v6
 refine Mir.toK (.seqK (.bind fun y11 h11=>.region fun e h=>?_))
 simp only [seval,EMI,eInt,rmap_set,spD]
 refine SpecS.by (r01_minus_spec h11) (by simp only [seval,FMI,eInt,rmap_set,spD]) ?_
 simp only [seval,EMI,eInt,rmap_set,spD]
 refine mU e (.guard fun q6=>?_) h
 replace q6 := and_of q6
 refine .bind fun e6 q7=>?_
 replace q7 := gt_ok q7
 simp only [Int.toNat_natCast] at q7
 refine .regionW fun e h=>regW.alt 4 rfl ?_
 simp only [seval,EMI,w_none,w_eq,und_104,und_146,eInt,rmap_set,spD]
 refine alt_indexG rfl rfl rfl und_90 sz_146 q6.1 q6.2 (regW.alt 0 rfl ?_)
 simp only [seval,EMI,w_none,w_eq,und_90,sz_146,eInt,rmap_set,spD]
 refine alt_storeR rfl rfl (row_at q7.2) rfl rfl sz_146 rfl (Nat.le_of_ble_eq_true rfl) (regW.of ?_)
 simp only [seval,EMI,w_none,w_eq,sz_146,eInt,rmap_set,spD]
 cases h
 simp only [seval,FMI,eInt,rmap_set,spD,Tryz.results137]
 intro v7
 refine Mir.toK (.region fun e h=>?_)
 simp only [seval,EMI,eInt,rmap_set,spD]
 cases h
 simp only [seval,FMI,eInt,rmap_set,spD,Tryz.results137]
 refine .exit fun e h=>?_
 cases h
 simp only [seval,FMI,eInt,rmap_set,spD,Tryz.results137]
 intro v8
 refine Mir.toK (.sR fun e h=>?_)
 simp only [seval,EMI,eInt,rmap_set,spD]
 refine mU e (.seqK (.guard fun q8=>.guard fun q9=>.regionW fun e h=>regW.alt 2 rfl ?_)) h
 simp only [seval,EMI,w_none,w_eq,und_90,eInt,rmap_set,spD]
 refine alt_makeM (en := (eInt .u32)) (z := 0) rfl rfl app_90 zero_146 rfl rfl (of_decide_eq_true q8) q9 (regW.of ?_)
 simp only [seval,EMI,w_none,w_eq,eInt,rmap_set,spD]
 refine mU e (.seqK (.sR fun e h=>?_)) h
 simp only [seval,EMI,und_90,eInt,rmap_set,spD]
 refine mU e (Mir.joinO (fun v10 : (List Int)=>([U,U,U,U,U,U,U,U,U,U,U,U,.gs 0 0 0 ((Int.toNat (y6.length : Int)) - 0),U,U,U,U,U,U,.gr 1 0] ++ us 153)) (fun v10=>⟨[[.rowc 146 0 (List.map (eInt .u32) v8.2)],[.rowc 146 0 (List.map (eInt .u32) v10)]],[]⟩) (fun _=>rfl) ?_ ?_) h
 refine .block (Mir.loop (fun v9 : Int × Int × (List Int)=>([U,U,U,U,U,U,U,U,.d (.int .u32 (IntKind.u32.wrap (IntKind.u64.wrap (Int.tdiv 1000000000 (IntKind.u64.wrap ((IntKind.u64.wrap e1) + 1)))))),U,U,.d (.list (List.map (eInt .u32) v8.1)),.gs 0 0 0 ((Int.toNat (y6.length : Int)) - 0),U,U,U,U,U,.d (.int .u64 v9.1),.gr 1 0,.d (.int .i64 v9.2.1)] ++ us 152)) (fun v9=>⟨[[.rowc 146 0 (List.map (eInt .u32) v8.2)],[.rowc 146 0 (List.map (eInt .u32) v9.2.2)]],[]⟩) (fun _=>rfl) (by simp only [seval,FMI,eInt,rmap_set,spD]) (by simp only [seval,FMI,eInt,rmap_set,spD]) fun v9=>.seqK (.sR fun e h=>?_))
 simp only [seval,EMI,eInt,rmap_set,spD]
 refine mU e (.cond rfl (fun h12=>?_) (fun h12=>?_)) h
 refine .skip (Mir.toK (.seqK (.block (.seqK (.bind fun e7 q10=>?_)))))
 replace q10 := gt_ok q10
 refine .region fun e h=>?_
 simp only [seval,EMI,und_90,sz_146,q10,ag_146,und_146,und_104,eInt,rmap_set,spD]
 refine mU e (.seqK (.guard fun q11=>?_)) h
 replace q11 := ne_of q11
 refine .bind fun e8 q13=>?_
 replace q13 := gt_ok q13
 refine .regionW fun e h=>regW.alt 7 rfl ?_
 simp only [seval,EMI,w_none,w_eq,und_146,und_104,q11,eInt,rmap_set,spD]
 refine alt_indexR rfl rfl rfl und_90 sz_146 (row_lo q13.1) (row_hi q13.2 q13.1) (regW.alt 0 rfl ?_)
 simp only [seval,EMI,w_none,w_eq,und_90,sz_146,eInt,rmap_set,spD]
 refine alt_storeR rfl rfl (row_at q13.2) rfl rfl sz_146 rfl (Nat.le_of_ble_eq_true rfl) (regW.of ?_)
 simp only [seval,EMI,w_none,w_eq,sz_146,eInt,rmap_set,spD]
 refine mU e (.guard fun q15=>?_) h
 replace q15 := ne_of q15
 refine .region fun e h=>?_
 simp only [seval,EMI,und_146,und_104,q15,eInt,rmap_set,spD]
 refine mU e (.region fun e h=>?_) h
 simp only [seval,EMI,eInt,rmap_set,spD]
 cases h
 simp only [seval,FMI,eInt,rmap_set,spD,Tryz.results137]
 refine .exit fun e h=>?_
 cases h
 simp only [seval,FMI,eInt,rmap_set,spD,Tryz.results137]
 intro v10
 refine Mir.toK (.seqK (.guard fun q18=>.frz 0 rfl ?_))
 simp only [seval,us_0,us_s,xCA,xNA,and_self,and_true,true_and,and_false,false_and,SZ,tk_map,dr_map]
 repeat first | rw [if_pos (show _ ≤ (_ : Nat) by simp only [lm]; have h1 := of_decide_eq_true q18; omega)]
 refine .frz 1 rfl ?_
 simp only [seval,us_0,us_s,xCA,xNA,and_self,and_true,true_and,and_false,false_and,SZ]
 refine .bind fun y12 h13=>.bind fun y13 h14=>.region fun e h=>?_
 simp only [seval,EMI,eInt,rmap_set,spD]
 refine SpecS.by (r01_trim_spec h13) (by simp only [seval,FMI,eInt,rmap_set,spD]) ?_
 simp only [seval,EMI,eInt,rmap_set,spD]
 refine SpecS.by (r01_trim_spec h14) (by simp only [seval,FMI,eInt,rmap_set,spD]) ?_
 simp only [seval,EMI,eInt,rmap_set,spD]
 refine mU e (.ret fun e h=>?_) h
 cases h
 simp only [seval,FMI,eInt,rmap_set,spD,Tryz.results137]
def r01_FromInt64 (a0 : Int) : Option ApiInt := if (decide (a0 < 0)) = true then bindO (r01_limbs (IntKind.u64.wrap (0 - (IntKind.u64.wrap a0)))) fun (y1 : (List Int))=>bindO (r01_signed true y1) fun (y2 : ApiInt)=>some y2 else bindO (r01_limbs (IntKind.u64.wrap a0)) fun (y3 : (List Int))=>bindO (r01_signed false y3) fun (y4 : ApiInt)=>some y4
theorem r01_FromInt64_spec {a0 : Int} {y : ApiInt} (h : r01_FromInt64 a0 = some y) : Spec gP 117 [.d (.int .i64 a0)] (.agg [.d (.bool y.Neg),.d (.list (List.map (eInt .u32) y.Limbs))]) := by
 refine spec_mir Tryz.func117 rfl (by kernel_rfl) (by kernel_rfl) (fun y : ApiInt=>.agg [.d (.bool y.Neg),.d (.list (List.map (eInt .u32) y.Limbs))]) ?_ h
 unfold r01_FromInt64
 simp only [List.replicate,List.length,nS,nA,Tryz.ntmps117,SV]
 refine .sR fun e h=>?_
 simp only [seval,EMI,zero_92]
 refine mU e (.seqK (.sR fun e h=>?_)) h
 simp only [seval,EMI]
 refine mU e (.cond rfl (fun hb4=>?_) (fun hb4=>?_)) h
 refine .seqK (.bind fun y1 hy5=>.bind fun y2 hy6=>.region fun e h=>?_)
 simp only [seval,EMI,und_2,und_104]
 refine SpecS.by (r01_limbs_spec hy5) (by simp only [seval,FMI]) ?_
 simp only [seval,EMI]
 refine SpecS.by (r01_signed_spec hy6) (by simp only [seval,FMI]) ?_
 simp only [seval,EMI,sz_92]
 refine mU e (.ret fun e h=>?_) h
 cases h
 simp only [seval,FMI,Tryz.results117,ag_92,sz_92]
 refine .skip (Mir.toK (.seqK (.bind fun y3 hy7=>.bind fun y4 hy8=>.region fun e h=>?_)))
 simp only [seval,EMI,und_2,und_104]
 refine SpecS.by (r01_limbs_spec hy7) (by simp only [seval,FMI]) ?_
 simp only [seval,EMI]
 refine SpecS.by (r01_signed_spec hy8) (by simp only [seval,FMI]) ?_
 simp only [seval,EMI,sz_92]
 refine mU e (.ret fun e h=>?_) h
 cases h
 simp only [seval,FMI,Tryz.results117,ag_92,sz_92]
def r01_DivMod (a0 : ApiInt) (a1 : ApiInt) : Option (ApiInt × ApiInt × Int) := if ((a1.Limbs.length : Int) == 0) = true then some (ApiInt.mk false [],ApiInt.mk false [],6) else bindO (r01_parts a0.Limbs a1.Limbs) fun (y1 : (List Int) × (List Int))=>bindO (r01_signed (!(a0.Neg == a1.Neg)) y1.1) fun (y2 : ApiInt)=>bindO (r01_signed a0.Neg y1.2) fun (y3 : ApiInt)=>bindO (if ((decide ((y1.2.length : Int) > 0)) && (!(a0.Neg == a1.Neg))) = true then bindO (r01_FromInt64 1) fun (y4 : ApiInt)=>bindO (r01_Sub y2 y4) fun (y5 : ApiInt)=>bindO (r01_Add y3 a1) fun (y6 : ApiInt)=>some (y5,y6) else some (y2,y3)) fun (v1 : ApiInt × ApiInt)=>some (v1.1,v1.2,0)
theorem r01_DivMod_spec {a0 : ApiInt} {a1 : ApiInt} {y : ApiInt × ApiInt × Int} (h : r01_DivMod a0 a1 = some y) : Spec gP 106 [.agg [.d (.bool a0.Neg),.d (.list (List.map (eInt .u32) a0.Limbs))],.agg [.d (.bool a1.Neg),.d (.list (List.map (eInt .u32) a1.Limbs))]] (.tuple [.agg [.d (.bool y.1.Neg),.d (.list (List.map (eInt .u32) y.1.Limbs))],.agg [.d (.bool y.2.1.Neg),.d (.list (List.map (eInt .u32) y.2.1.Limbs))],.d (.int .i64 y.2.2)]) := by
 refine spec_mir Tryz.func106 rfl (by kernel_rfl) (by kernel_rfl) (fun y : ApiInt × ApiInt × Int=>.tuple [.agg [.d (.bool y.1.Neg),.d (.list (List.map (eInt .u32) y.1.Limbs))],.agg [.d (.bool y.2.1.Neg),.d (.list (List.map (eInt .u32) y.2.1.Limbs))],.d (.int .i64 y.2.2)]) ?_ h
 unfold r01_DivMod
 simp only [List.replicate,List.length,nS,nA,Tryz.ntmps106,SV]
 refine .sR fun e h=>?_
 simp only [seval,EMI,zero_92,eInt]
 refine mU e (.seqK (.sR fun e h=>?_)) h
 simp only [seval,EMI,fld_92_1,sz_90,ag_90,und_90,eInt]
 refine mU e (.cond rfl (fun hb2=>?_) (fun hb2=>?_)) h
 refine .sR fun e h=>?_
 simp only [seval,EMI,zero_92,pl_92,sz_92,eInt]
 refine mU e (.ret fun e h=>?_) h
 cases h
 simp only [seval,FMI,eInt,Tryz.results106,ag_92,sz_92]
 refine .skip (Mir.toK (.seqK (.bind fun y1 hy3=>.region fun e h=>?_)))
 simp only [seval,EMI,fld_92_1,sz_90,ag_90,eInt]
 refine SpecS.by (r01_parts_spec hy3) (by simp only [seval,FMI,eInt]) ?_
 simp only [seval,EMI,eInt]
 refine mU e (.seqK (.bind fun y2 hy4=>.bind fun y3 hy5=>.regionD [] (by kernel_rfl) fun e h=>?_)) h
 simp only [seval,EMI,SB,fld_92_0,sz_4,ag_4,und_4,eInt]
 refine Spec.by (r01_signed_spec hy4) (by simp only [seval,FMI,eInt]) ?_
 simp only [seval,EMI,SB,fld_92_0,sz_4,ag_4,eInt]
 refine Spec.by (r01_signed_spec hy5) (by simp only [seval,FMI,eInt]) ?_
 simp only [seval,EMI,SB,zero_92,sz_92,eInt]
 refine mU e (.seqK (.seqK (.joinV ([U,U,U,.ptr 1 0,.ptr 2 0,.ptr 3 0,U,U,U,.ptr 4 0,.ptr 5 0,U,U,U,U,U,U,U,U,U,U,U,U,U,U,U,U,U,U,U,U,U,U,U,U,U,U,U,U,U,U,U,U,U,U,.d (.bool ((decide ((y1.2.length : Int) > 0)) && (!(a0.Neg == a1.Neg))))] ++ us 8) ⟨[[.d (.bool a0.Neg),.d (.list (List.map (eInt .u32) a0.Limbs))],[.d (.bool a1.Neg),.d (.list (List.map (eInt .u32) a1.Limbs))],[.d (.bool false),.nil],[.d (.bool false),.nil],[.d (.bool y2.Neg),.d (.list (List.map (eInt .u32) y2.Limbs))],[.d (.bool y3.Neg),.d (.list (List.map (eInt .u32) y3.Limbs))]],[]⟩ rfl ?_ ?_))) h
 refine SWs.region ?_
 rcases Bool.eq_false_or_eq_true (decide ((y1.2.length : Int) > 0)) with hb6 | hb6
 simp only [seval,EMI,SL,PB,und_90,fld_92_0,sz_4,ag_4,und_4,hb6,eInt]
 simp only [seval,EMI,SL,PB,und_90,hb6,eInt]
 refine Mir.toK (Mir.joinO (fun v1 : ApiInt × ApiInt=>([U,U,U,U,.ptr 2 0,.ptr 3 0,U,U,U,.ptr 4 0,.ptr 5 0] ++ us 43)) (fun v1=>⟨[[.d (.bool a0.Neg),.d (.list (List.map (eInt .u32) a0.Limbs))],[.d (.bool a1.Neg),.d (.list (List.map (eInt .u32) a1.Limbs))],[.d (.bool false),.nil],[.d (.bool false),.nil],[.d (.bool v1.1.Neg),.d (.list (List.map (eInt .u32) v1.1.Limbs))],[.d (.bool v1.2.Neg),.d (.list (List.map (eInt .u32) v1.2.Limbs))]],[]⟩) (fun _=>rfl) ?_ ?_)
 refine .cond rfl (fun hb11=>?_) (fun hb11=>?_)
 refine .bind fun y4 hy12=>.bind fun y5 hy13=>.bind fun y6 hy14=>.regionD [] (by kernel_rfl) fun e h=>?_
 simp only [seval,EMI,SB,ag_92,sz_92,eInt]
 refine Spec.by (r01_FromInt64_spec hy12) (by simp only [seval,FMI,eInt]) ?_
 simp only [seval,EMI,SB,eInt]
 refine Spec.by (r01_Sub_spec hy13) (by simp only [seval,FMI,eInt]) ?_
 simp only [seval,EMI,SB,ag_92,sz_92,eInt]
 refine Spec.by (r01_Add_spec hy14) (by simp only [seval,FMI,eInt]) ?_
 simp only [seval,EMI,SB,sz_92,eInt]
 cases h
 simp only [seval,FMI,eInt,Tryz.results106,ag_92,sz_92]
 refine .skip fun e h=>?_
 cases h
 simp only [seval,FMI,eInt,Tryz.results106,ag_92,sz_92]
 intro v1
 refine Mir.toK (.seqK (.regionD [(10,4)] (by kernel_rfl) fun e h=>?_))
 simp only [seval,EMI,SB,ag_92,sz_92,eInt]
 refine mU e (.ret fun e h=>?_) h
 cases h
 simp only [seval,FMI,eInt,Tryz.results106,ag_92,sz_92]
def r01_GCD (a0 : ApiInt) (a1 : ApiInt) : Option ApiInt := bindO (loopX (fun (v1 : (List Int) × (List Int))=>if ((decide ((v1.2.length : Int) > 0)) && ((decide ((v1.1.length : Int) > 2)) || (decide ((v1.2.length : Int) > 2)))) = true then bindO (r01_parts v1.1 v1.2) fun (y1 : (List Int) × (List Int))=>some (.go (v1.2,y1.2)) else some (.ret (v1.1,v1.2))) fuel (a0.Limbs,a1.Limbs)) fun (v2 : (List Int) × (List Int))=>if ((v2.2.length : Int) == 0) = true then bindO (r01_signed false v2.1) fun (y2 : ApiInt)=>some y2 else bindO (r01_short v2.1) fun (y3 : Int)=>bindO (r01_short v2.2) fun (y4 : Int)=>bindO (loopX (fun (v3 : Int × Int)=>if (decide (v3.2 > 0)) = true then guardO (!(v3.2 == 0)) ( some (.go (v3.2,Int.tmod v3.1 v3.2))) else some (.ret v3.1)) fuel (y3,y4)) fun (v4 : Int)=>bindO (r01_limbs v4) fun (y5 : (List Int))=>bindO (r01_signed false y5) fun (y6 : ApiInt)=>some y6
theorem r01_GCD_spec {a0 : ApiInt} {a1 : ApiInt} {y : ApiInt} (h : r01_GCD a0 a1 = some y) : Spec gP 142 [.agg [.d (.bool a0.Neg),.d (.list (List.map (eInt .u32) a0.Limbs))],.agg [.d (.bool a1.Neg),.d (.list (List.map (eInt .u32) a1.Limbs))]] (.agg [.d (.bool y.Neg),.d (.list (List.map (eInt .u32) y.Limbs))]) := by
 refine spec_mir Tryz.func142 rfl (by kernel_rfl) (by kernel_rfl) (fun y : ApiInt=>.agg [.d (.bool y.Neg),.d (.list (List.map (eInt .u32) y.Limbs))]) ?_ h
 unfold r01_GCD
 simp only [List.replicate,List.length,nS,nA,Tryz.ntmps142,SV]
 refine .sR fun e h=>?_
 simp only [seval,EMI,zero_92,eInt]
 refine mU e (.seqK (.regionD [] (by kernel_rfl) fun e h=>?_)) h
 simp only [seval,EMI,SB,fld_92_1,sz_90,ag_90,eInt]
 refine mU e (.seqK (Mir.joinO (fun v2 : (List Int) × (List Int)=>([U,U,U,U,.ptr 2 0,.d (.list (List.map (eInt .u32) v2.1)),.d (.list (List.map (eInt .u32) v2.2))] ++ us 47)) (fun v2=>⟨[[.d (.bool a0.Neg),.d (.list (List.map (eInt .u32) a0.Limbs))],[.d (.bool a1.Neg),.d (.list (List.map (eInt .u32) a1.Limbs))],[.d (.bool false),.nil]],[]⟩) (fun _=>rfl) ?_ ?_)) h
 refine .block (Mir.loop (fun v1 : (List Int) × (List Int)=>([U,U,U,U,.ptr 2 0,.d (.list (List.map (eInt .u32) v1.1)),.d (.list (List.map (eInt .u32) v1.2))] ++ us 47)) (fun v1=>⟨[[.d (.bool a0.Neg),.d (.list (List.map (eInt .u32) a0.Limbs))],[.d (.bool a1.Neg),.d (.list (List.map (eInt .u32) a1.Limbs))],[.d (.bool false),.nil]],[]⟩) (fun _=>rfl) (by simp only [seval,FMI,eInt]) (by simp only [seval,FMI,eInt]) fun v1=>.seqK (.seqK (.joinV ([U,U,U,U,.ptr 2 0,.d (.list (List.map (eInt .u32) v1.1)),.d (.list (List.map (eInt .u32) v1.2)),U,U,U,U,U,U,U,U,U,U,U,U,U,U,U,U,U,U,U,U,.d (.bool ((decide ((v1.2.length : Int) > 0)) && ((decide ((v1.1.length : Int) > 2)) || (decide ((v1.2.length : Int) > 2)))))] ++ us 26) ⟨[[.d (.bool a0.Neg),.d (.list (List.map (eInt .u32) a0.Limbs))],[.d (.bool a1.Neg),.d (.list (List.map (eInt .u32) a1.Limbs))],[.d (.bool false),.nil]],[]⟩ rfl ?_ ?_)))
 refine SWs.region ?_
 rcases Bool.eq_false_or_eq_true (decide ((v1.2.length : Int) > 0)) with hb34 | hb34
 rcases Bool.eq_false_or_eq_true (decide ((v1.1.length : Int) > 2)) with hb35 | hb35
 simp only [seval,EMI,SL,PB,und_90,hb34,hb35,eInt]
 simp only [seval,EMI,SL,PB,und_90,hb34,hb35,eInt]
 simp only [seval,EMI,SL,PB,und_90,hb34,eInt]
 refine Mir.toK (.cond rfl (fun hb37=>?_) (fun hb37=>?_))
 refine .skip (Mir.toK (.block (.seqK (.bind fun y1 hy38=>.region fun e h=>?_))))
 simp only [seval,EMI,eInt]
 refine SpecS.by (r01_parts_spec hy38) (by simp only [seval,FMI,eInt]) ?_
 simp only [seval,EMI,eInt]
 refine mU e (.region fun e h=>?_) h
 simp only [seval,EMI,eInt]
 cases h
 simp only [seval,FMI,eInt,Tryz.results142,ag_92,sz_92]
 refine .exit fun e h=>?_
 cases h
 simp only [seval,FMI,eInt,Tryz.results142,ag_92,sz_92]
 intro v2
 refine Mir.toK (.seqK (.sR fun e h=>?_))
 simp only [seval,EMI,und_90,eInt]
 refine mU e (.cond rfl (fun hb41=>?_) (fun hb41=>?_)) h
 refine .seqK (.bind fun y2 hy42=>.region fun e h=>?_)
 simp only [seval,EMI,eInt]
 refine SpecS.by (r01_signed_spec hy42) (by simp only [seval,FMI,eInt]) ?_
 simp only [seval,EMI,sz_92,eInt]
 refine mU e (.ret fun e h=>?_) h
 cases h
 simp only [seval,FMI,eInt,Tryz.results142,ag_92,sz_92]
 refine .skip (Mir.toK (.seqK (.bind fun y3 hy43=>.bind fun y4 hy44=>.region fun e h=>?_)))
 simp only [seval,EMI,eInt]
 refine SpecS.by (r01_short_spec hy43) (by simp only [seval,FMI,eInt]) ?_
 simp only [seval,EMI,eInt]
 refine SpecS.by (r01_short_spec hy44) (by simp only [seval,FMI,eInt]) ?_
 simp only [seval,EMI,eInt]
 refine mU e (.seqK (Mir.joinO (fun v4 : Int=>([U,U,U,U,.ptr 2 0,U,U,U,U,.d (.int .u64 v4)] ++ us 44)) (fun v4=>⟨[[.d (.bool a0.Neg),.d (.list (List.map (eInt .u32) a0.Limbs))],[.d (.bool a1.Neg),.d (.list (List.map (eInt .u32) a1.Limbs))],[.d (.bool false),.nil]],[]⟩) (fun _=>rfl) ?_ ?_)) h
 refine .block (Mir.loop (fun v3 : Int × Int=>([U,U,U,U,.ptr 2 0,U,U,U,U,.d (.int .u64 v3.1),.d (.int .u64 v3.2)] ++ us 43)) (fun v3=>⟨[[.d (.bool a0.Neg),.d (.list (List.map (eInt .u32) a0.Limbs))],[.d (.bool a1.Neg),.d (.list (List.map (eInt .u32) a1.Limbs))],[.d (.bool false),.nil]],[]⟩) (fun _=>rfl) (by simp only [seval,FMI,eInt]) (by simp only [seval,FMI,eInt]) fun v3=>.seqK (.sR fun e h=>?_))
 simp only [seval,EMI,eInt]
 refine mU e (.cond rfl (fun hb61=>?_) (fun hb61=>?_)) h
 refine .skip (Mir.toK (.block (.guard fun q62=>?_)))
 replace q62 := ne_of q62
 refine .regionD [] (by kernel_rfl) fun e h=>?_
 simp only [seval,EMI,SB,q62,eInt]
 cases h
 simp only [seval,FMI,eInt,Tryz.results142,ag_92,sz_92]
 refine .exit fun e h=>?_
 cases h
 simp only [seval,FMI,eInt,Tryz.results142,ag_92,sz_92]
 intro v4
 refine Mir.toK (.seqK (.bind fun y5 hy63=>.bind fun y6 hy64=>.region fun e h=>?_))
 simp only [seval,EMI,eInt]
 refine SpecS.by (r01_limbs_spec hy63) (by simp only [seval,FMI,eInt]) ?_
 simp only [seval,EMI,eInt]
 refine SpecS.by (r01_signed_spec hy64) (by simp only [seval,FMI,eInt]) ?_
 simp only [seval,EMI,sz_92,eInt]
 refine mU e (.ret fun e h=>?_) h
 cases h
 simp only [seval,FMI,eInt,Tryz.results142,ag_92,sz_92]
def r01_Cmp (a0 : ApiInt) (a1 : ApiInt) : Option Int := if (!(a0.Neg == a1.Neg)) = true then if a0.Neg = true then some (-1) else some 1 else if a0.Neg = true then bindO (r01_compare a1.Limbs a0.Limbs) fun (y1 : Int)=>some y1 else bindO (r01_compare a0.Limbs a1.Limbs) fun (y2 : Int)=>some y2
theorem r01_Cmp_spec {a0 : ApiInt} {a1 : ApiInt} {y : Int} (h : r01_Cmp a0 a1 = some y) : Spec gP 135 [.agg [.d (.bool a0.Neg),.d (.list (List.map (eInt .u32) a0.Limbs))],.agg [.d (.bool a1.Neg),.d (.list (List.map (eInt .u32) a1.Limbs))]] (.d (.int .i64 y)) := by
 refine spec_mir Tryz.func135 rfl (by kernel_rfl) (by kernel_rfl) (fun y : Int=>.d (.int .i64 y)) ?_ h
 unfold r01_Cmp
 simp only [List.replicate,List.length,nS,nA,Tryz.ntmps135,SV]
 refine .sR fun e h=>?_
 simp only [seval,EMI,eInt]
 refine mU e (.seqK (.sR fun e h=>?_)) h
 simp only [seval,EMI,fld_92_0,sz_4,ag_4,und_4,eInt]
 refine mU e (.cond rfl (fun hb4=>?_) (fun hb4=>?_)) h
 refine .seqK (.sR fun e h=>?_)
 simp only [seval,EMI,fld_92_0,sz_4,ag_4,eInt]
 refine mU e (.cond rfl (fun hb6=>?_) (fun hb6=>?_)) h
 refine .sR fun e h=>?_
 simp only [seval,EMI,eInt]
 refine mU e (.ret fun e h=>?_) h
 cases h
 simp only [seval,FMI,eInt,Tryz.results135]
 refine .skip (Mir.toK (.sR fun e h=>?_))
 simp only [seval,EMI,eInt]
 refine mU e (.ret fun e h=>?_) h
 cases h
 simp only [seval,FMI,eInt,Tryz.results135]
 refine .skip (Mir.toK (.seqK (.sR fun e h=>?_)))
 simp only [seval,EMI,fld_92_0,sz_4,ag_4,eInt]
 refine mU e (.cond rfl (fun hb9=>?_) (fun hb9=>?_)) h
 refine .seqK (.bind fun y1 hy10=>.region fun e h=>?_)
 simp only [seval,EMI,fld_92_1,sz_90,ag_90,eInt]
 refine SpecS.by (r01_compare_spec hy10) (by simp only [seval,FMI,eInt]) ?_
 simp only [seval,EMI,eInt]
 refine mU e (.ret fun e h=>?_) h
 cases h
 simp only [seval,FMI,eInt,Tryz.results135]
 refine .skip (Mir.toK (.seqK (.bind fun y2 hy11=>.region fun e h=>?_)))
 simp only [seval,EMI,fld_92_1,sz_90,ag_90,eInt]
 refine SpecS.by (r01_compare_spec hy11) (by simp only [seval,FMI,eInt]) ?_
 simp only [seval,EMI,eInt]
 refine mU e (.ret fun e h=>?_) h
 cases h
 simp only [seval,FMI,eInt,Tryz.results135]
def r01_Sign (a0 : ApiInt) : Option Int := if ((a0.Limbs.length : Int) == 0) = true then some 0 else if a0.Neg = true then some (-1) else some 1
theorem r01_Sign_spec {a0 : ApiInt} {y : Int} (h : r01_Sign a0 = some y) : Spec gP 140 [.agg [.d (.bool a0.Neg),.d (.list (List.map (eInt .u32) a0.Limbs))]] (.d (.int .i64 y)) := by
 refine spec_mir Tryz.func140 rfl (by kernel_rfl) (by kernel_rfl) (fun y : Int=>.d (.int .i64 y)) ?_ h
 unfold r01_Sign
 simp only [List.replicate,List.length,nS,nA,Tryz.ntmps140,SV]
 refine .sR fun e h=>?_
 simp only [seval,EMI,eInt]
 refine mU e (.seqK (.sR fun e h=>?_)) h
 simp only [seval,EMI,fld_92_1,sz_90,ag_90,und_90,eInt]
 refine mU e (.cond rfl (fun hb2=>?_) (fun hb2=>?_)) h
 refine .sR fun e h=>?_
 simp only [seval,EMI,eInt]
 refine mU e (.ret fun e h=>?_) h
 cases h
 simp only [seval,FMI,eInt,Tryz.results140]
 refine .skip (Mir.toK (.seqK (.sR fun e h=>?_)))
 simp only [seval,EMI,fld_92_0,sz_4,ag_4,eInt]
 refine mU e (.cond rfl (fun hb4=>?_) (fun hb4=>?_)) h
 refine .sR fun e h=>?_
 simp only [seval,EMI,eInt]
 refine mU e (.ret fun e h=>?_) h
 cases h
 simp only [seval,FMI,eInt,Tryz.results140]
 refine .skip (Mir.toK (.sR fun e h=>?_))
 simp only [seval,EMI,eInt]
 refine mU e (.ret fun e h=>?_) h
 cases h
 simp only [seval,FMI,eInt,Tryz.results140]
def r01_Int64 (a0 : ApiInt) : Option (Int × Bool) := bindO (r01_FromInt64 (-9223372036854775808)) fun (y1 : ApiInt)=>bindO (r01_FromInt64 9223372036854775807) fun (y2 : ApiInt)=>bindO (bindO (r01_Cmp a0 y1) fun (y3 : Int)=>if (decide (y3 < 0)) = true then some true else bindO (r01_Cmp a0 y2) fun (y4 : Int)=>some (decide (y4 > 0))) fun (v1 : Bool)=>if v1 = true then some (0,false) else bindO (r01_short a0.Limbs) fun (y5 : Int)=>if a0.Neg = true then some (IntKind.i64.wrap (0 - (IntKind.i64.wrap y5)),true) else some (IntKind.i64.wrap y5,true)
theorem r01_Int64_spec {a0 : ApiInt} {y : Int × Bool} (h : r01_Int64 a0 = some y) : Spec gP 105 [.agg [.d (.bool a0.Neg),.d (.list (List.map (eInt .u32) a0.Limbs))]] (.tuple [.d (.int .i64 y.1),.d (.bool y.2)]) := by
 refine spec_mir Tryz.func105 rfl (by kernel_rfl) (by kernel_rfl) (fun y : Int × Bool=>.tuple [.d (.int .i64 y.1),.d (.bool y.2)]) ?_ h
 unfold r01_Int64
 simp only [List.replicate,List.length,nS,nA,Tryz.ntmps105,SV]
 refine .sR fun e h=>?_
 simp only [seval,EMI,eInt]
 refine mU e (.seqK (.bind fun y1 hy1=>.bind fun y2 hy2=>.region fun e h=>?_)) h
 simp only [seval,EMI,eInt]
 refine SpecS.by (r01_FromInt64_spec hy1) (by simp only [seval,FMI,eInt]) ?_
 simp only [seval,EMI,eInt]
 refine SpecS.by (r01_FromInt64_spec hy2) (by simp only [seval,FMI,eInt]) ?_
 simp only [seval,EMI,zero_92,sz_92,eInt]
 refine mU e (.seqK (.seqK (Mir.joinO (fun v1 : Bool=>([U,.ptr 0 0,U,U,U,U,U,U,U,U,U,U,U,U,U,U,U,U,.d (.bool v1)] ++ us 10)) (fun v1=>⟨[[.d (.bool a0.Neg),.d (.list (List.map (eInt .u32) a0.Limbs))],[.d (.bool y1.Neg),.d (.list (List.map (eInt .u32) y1.Limbs))],[.d (.bool y2.Neg),.d (.list (List.map (eInt .u32) y2.Limbs))]],[]⟩) (fun _=>rfl) ?_ ?_))) h
 refine .bind fun y3 hy3=>.ite (fun hb4=>?_) (fun hb4=>?_)
 refine .region fun e h=>?_
 simp only [seval,EMI,ag_92,sz_92,eInt,hb4]
 refine SpecS.by (r01_Cmp_spec hy3) (by simp only [seval,FMI,eInt,hb4]) ?_
 simp only [seval,EMI,eInt,hb4]
 cases h
 simp only [seval,FMI,eInt,hb4]
 refine .bind fun y4 hy5=>.region fun e h=>?_
 simp only [seval,EMI,ag_92,sz_92,eInt,hb4]
 refine SpecS.by (r01_Cmp_spec hy3) (by simp only [seval,FMI,eInt,hb4]) ?_
 simp only [seval,EMI,ag_92,sz_92,eInt,hb4]
 refine SpecS.by (r01_Cmp_spec hy5) (by simp only [seval,FMI,eInt,hb4]) ?_
 simp only [seval,EMI,eInt,hb4]
 cases h
 simp only [seval,FMI,eInt,hb4]
 intro v1
 refine Mir.toK (.cond rfl (fun hb7=>?_) (fun hb7=>?_))
 refine .sR fun e h=>?_
 simp only [seval,EMI,eInt]
 refine mU e (.ret fun e h=>?_) h
 cases h
 simp only [seval,FMI,eInt,Tryz.results105]
 refine .skip (Mir.toK (.seqK (.bind fun y5 hy8=>.region fun e h=>?_)))
 simp only [seval,EMI,fld_92_1,sz_90,ag_90,eInt]
 refine SpecS.by (r01_short_spec hy8) (by simp only [seval,FMI,eInt]) ?_
 simp only [seval,EMI,eInt]
 refine mU e (.seqK (.sR fun e h=>?_)) h
 simp only [seval,EMI,fld_92_0,sz_4,ag_4,eInt]
 refine mU e (.cond rfl (fun hb10=>?_) (fun hb10=>?_)) h
 refine .sR fun e h=>?_
 simp only [seval,EMI,und_104,und_2,eInt]
 refine mU e (.ret fun e h=>?_) h
 cases h
 simp only [seval,FMI,eInt,Tryz.results105]
 refine .skip (Mir.toK (.sR fun e h=>?_))
 simp only [seval,EMI,und_104,und_2,eInt]
 refine mU e (.ret fun e h=>?_) h
 cases h
 simp only [seval,FMI,eInt,Tryz.results105]
def r01_Same (a0 : ApiInt) (a1 : ApiInt) : Option Bool := bindO (if (a0.Neg == a1.Neg) = true then bindO (r01_compare a0.Limbs a1.Limbs) fun (y1 : Int)=>some (y1 == 0) else some false) fun (v1 : Bool)=>some v1
theorem r01_Same_spec {a0 : ApiInt} {a1 : ApiInt} {y : Bool} (h : r01_Same a0 a1 = some y) : Spec gP 116 [.agg [.d (.bool a0.Neg),.d (.list (List.map (eInt .u32) a0.Limbs))],.agg [.d (.bool a1.Neg),.d (.list (List.map (eInt .u32) a1.Limbs))]] (.d (.bool y)) := by
 refine spec_mir Tryz.func116 rfl (by kernel_rfl) (by kernel_rfl) (fun y : Bool=>.d (.bool y)) ?_ h
 unfold r01_Same
 simp only [List.replicate,List.length,nS,nA,Tryz.ntmps116,SV]
 refine .sR fun e h=>?_
 simp only [seval,EMI,eInt]
 refine mU e (.seqK (Mir.joinO (fun v1 : Bool=>([U,U,U,U,.d (.bool v1)] ++ us 13)) (fun v1=>⟨[[.d (.bool a0.Neg),.d (.list (List.map (eInt .u32) a0.Limbs))],[.d (.bool a1.Neg),.d (.list (List.map (eInt .u32) a1.Limbs))]],[]⟩) (fun _=>rfl) ?_ ?_)) h
 refine .ite (fun hb1=>?_) (fun hb1=>?_)
 refine .bind fun y1 hy2=>.region fun e h=>?_
 simp only [seval,EMI,fld_92_0,sz_4,ag_4,und_4,fld_92_1,sz_90,ag_90,eInt,hb1]
 refine SpecS.by (r01_compare_spec hy2) (by simp only [seval,FMI,eInt,hb1]) ?_
 simp only [seval,EMI,eInt,hb1]
 cases h
 simp only [seval,FMI,eInt,hb1]
 refine .region fun e h=>?_
 simp only [seval,EMI,fld_92_0,sz_4,ag_4,und_4,eInt,hb1]
 cases h
 simp only [seval,FMI,eInt,hb1]
 intro v1
 refine Mir.toK (.ret fun e h=>?_)
 cases h
 simp only [seval,FMI,eInt,Tryz.results116]
end Go.Proofs.YthljcnchaopncaaGreatDoor
