import Derived.Test.YtpdjgamdnjfmkaaGreatDoorGx
import Derived.Test.YtpdjgamdnjfmkaaGreatDoorTy
import Derived.Test.YtpdjgamdnjfmkaaGreatDoorGz
import Derived.Test.YtpdjgamdnjfmkaaGreatDoorSzz
namespace Go.Proofs.YtpdjgamdnjfmkaaGreatDoor
open Go.RowKit
open Nat renaming reduceAdd → nA, reduceSub → nS, reduceMul → nM, reduceEqDiff → nE, reduceLeDiff → nL, reduceLT → nT, reduceBEq → nB
open Int renaming reduceLT → iT, reduceToNat → iN, reduceEq → iE
set_option linter.unusedVariables false
set_option linter.unusedSimpArgs false
set_option maxRecDepth 100000
set_option maxHeartbeats 8000000
structure ApiInt where
 Neg : Bool
 Limbs : (List Int)
 deriving DecidableEq
def encApiInt (x : ApiInt) : List D := [.bool x.Neg, .list (List.map (eInt .u32) x.Limbs)]
theorem ENMI : type_of% (@encApiInt.eq_1) := @encApiInt.eq_1
theorem EMI : type_of% (And.intro @SE <| @ENMI) := And.intro @SE <| @ENMI
theorem FMI : type_of% (And.intro @SF <| @ENMI) := And.intro @SF <| @ENMI
def it_plus (a0 : (List Int)) (a1 : (List Int)) : Option (List Int) := bindO (if (decide ((a0.length : Int) < (a1.length : Int))) = true then some (a1, a0) else some (a0, a1)) fun (v1 : (List Int) × (List Int)) => guardO (decide ((0 : Int) ≤ (IntKind.i64.wrap ((v1.1.length : Int) + 1)))) ( guardO (okLen (Int.toNat (IntKind.i64.wrap ((v1.1.length : Int) + 1)))) ( bindO (guardO (okIdx v1.1) ( rangeX (fun (i1 : Nat) (e1 : Int) (v2 : (List Int) × Int) => bindO (if (decide ((i1 : Int) < (v1.2.length : Int))) = true then bindO (gt v1.2 (i1 : Int)) fun (e2 : Int) => some (IntKind.u32.wrap ((IntKind.u32.wrap (e1 + v2.2)) + e2)) else some (IntKind.u32.wrap (e1 + v2.2))) fun (v3 : Int) => bindO (if (decide (v3 ≥ 1000000000)) = true then some (1, IntKind.u32.wrap (v3 - 1000000000)) else some (0, v3)) fun (v4 : Int × Int) => guardO (okLen (v2.1.length + 1)) ( some (.go (v2.1 ++ [v4.2], v4.1)))) (fun (v2 : (List Int) × Int) => some (v2.1, v2.2)) v1.1 0 ([], 0))) fun (v5 : (List Int) × Int) => guardO (okLen (v5.1.length + 1)) ( some (v5.1 ++ [v5.2]))))
theorem it_plus_spec {a0 : (List Int)} {a1 : (List Int)} {y : (List Int)} (h : it_plus a0 a1 = some y) : Spec gP 152 [.d (.list (List.map (eInt .u32) a0)), .d (.list (List.map (eInt .u32) a1))] (.d (.list (List.map (eInt .u32) y))) := by
 refine spec_mir Tryz.func152 rfl (by kernel_rfl) (by kernel_rfl) (fun y : (List Int) => .d (.list (List.map (eInt .u32) y))) ?_ h
 unfold it_plus
 simp only [List.replicate, List.length, nS, nA, Tryz.ntmps152, SV]
 refine .sR fun e h=>?_
 simp only [seval,EMI,eInt]
 refine mU e (.seqK (.sR fun e h=>?_)) h
 simp only [seval,EMI,und_49,eInt]
 refine mU e (Mir.joinO (fun v1 : (List Int) × (List Int)=>([.d (.list (List.map (eInt .u32) v1.1)),.d (.list (List.map (eInt .u32) v1.2))] ++ us 51)) (fun v1=>⟨[],[]⟩) (fun _=>rfl) ?_ ?_) h
 refine .cond rfl (fun hb2=>?_) (fun hb2=>?_)
 refine .region fun e h=>?_
 simp only [seval,EMI,eInt]
 cases h
 simp only [seval,FMI,eInt,Tryz.results152]
 refine .skip fun e h=>?_
 cases h
 simp only [seval,FMI,eInt,Tryz.results152]
 intro v1
 refine Mir.toK (.seqK (.guard fun q3=>.guard fun q4=>.regionW fun e h=>regW.alt 3 rfl ?_))
 simp only [seval,EMI,w_none,w_eq,und_49,eInt]
 refine alt_makeOwn rfl rfl app_49 (of_decide_eq_true q3) q4 (regW.of ?_)
 simp only [seval,EMI,w_none,w_eq,eInt]
 refine mU e (.sR fun e h=>?_) h
 simp only [seval,EMI,eInt]
 refine mU e (.seqK (.sR fun e h=>?_)) h
 simp only [seval,EMI,und_49,eInt]
 refine mU e (Mir.joinO (fun v5 : (List Int) × Int=>([U,U,U,U,U,.own 0 (List.map (eInt .u32) v5.1),.d (.int .u32 v5.2)] ++ us 46)) (fun v5=>⟨[],[(101,v5.1.length)]⟩) (fun _=>rfl) ?_ ?_) h
 refine .block (.guard fun q1=>Mir.range (fun (i1 : Nat) (v2 : (List Int) × Int)=>([U,.d (.list (List.map (eInt .u32) v1.2)),U,U,U,.own 0 (List.map (eInt .u32) v2.1),.d (.int .u32 v2.2),U,U,U,U,U,U,U,U,U,U,U,U,U,.d (.list (List.map (eInt .u32) v1.1)),.d (.int .i64 (v1.1.length : Int)),.d (.int .i64 (i1 : Int))] ++ us 30)) (fun i1 v2=>⟨[],[(101,v2.1.length)]⟩) q1 (fun _ _=>rfl) (by simp only [seval,FMI,eInt,zNI]) (by simp only [seval,FMI,eInt,zNI]) ?_ ?_)
 intro i1 e1 v2 q2
 refine .sR fun e h=>?_
 simp only [seval,EMI,q2,eInt]
 refine mU e (.seqK (.condT rfl (.skip (Mir.toK (.seqK (.block (.sR fun e h=>?_))))))) h
 simp only [seval,EMI,und_49,sz_101,q2,Int.toNat_natCast,ag_101,eInt]
 refine mU e (.sR fun e h=>?_) h
 simp only [seval,EMI,eInt]
 refine mU e (.seqK (.sR fun e h=>?_)) h
 simp only [seval,EMI,und_49,eInt]
 refine mU e (Mir.joinO (fun v3 : Int=>([U,.d (.list (List.map (eInt .u32) v1.2)),U,U,U,.own 0 (List.map (eInt .u32) v2.1),U,U,.d (.int .u32 v3),U,U,U,U,U,U,U,U,U,U,U,.d (.list (List.map (eInt .u32) v1.1)),.d (.int .i64 (v1.1.length : Int)),.d (.int .i64 (i1 : Int))] ++ us 30)) (fun v3=>⟨[],[(101,v2.1.length)]⟩) (fun _=>rfl) ?_ ?_) h
 refine .cond rfl (fun h1=>?_) (fun h1=>?_)
 refine .bind fun e2 q5=>?_
 replace q5 := gt_ok q5
 simp only [Int.toNat_natCast] at q5
 refine .region fun e h=>?_
 simp only [seval,EMI,und_49,sz_101,q5,Int.toNat_natCast,ag_101,eInt]
 cases h
 simp only [seval,FMI,eInt,Tryz.results152]
 refine .skip fun e h=>?_
 cases h
 simp only [seval,FMI,eInt,Tryz.results152]
 intro v3
 refine Mir.toK (.sR fun e h=>?_)
 simp only [seval,EMI,eInt]
 refine mU e (.seqK (.sR fun e h=>?_)) h
 simp only [seval,EMI,eInt]
 refine mU e (Mir.joinO (fun v4 : Int × Int=>([U,.d (.list (List.map (eInt .u32) v1.2)),U,U,U,.own 0 (List.map (eInt .u32) v2.1),.d (.int .u32 v4.1),U,.d (.int .u32 v4.2),U,U,U,U,U,U,U,U,U,U,U,.d (.list (List.map (eInt .u32) v1.1)),.d (.int .i64 (v1.1.length : Int)),.d (.int .i64 (i1 : Int))] ++ us 30)) (fun v4=>⟨[],[(101,v2.1.length)]⟩) (fun _=>rfl) ?_ ?_) h
 refine .cond rfl (fun h2=>?_) (fun h2=>?_)
 refine .region fun e h=>?_
 simp only [seval,EMI,eInt]
 cases h
 simp only [seval,FMI,eInt,Tryz.results152]
 refine .skip fun e h=>?_
 cases h
 simp only [seval,FMI,eInt,Tryz.results152]
 intro v4
 refine Mir.toK (.guard fun q6=>.region fun e h=>?_)
 simp only [seval,EMI,und_49,sz_101,zero_101,(oL 1),app_49,al_eInt,q6,eInt]
 refine mU e (.region fun e h=>?_) h
 simp only [seval,EMI,eInt]
 cases h
 simp only [seval,FMI,eInt,Tryz.results152,q2]
 intro v2 q7
 refine .sR fun e h=>?_
 simp only [seval,EMI,q7,eInt]
 refine mU e (.seqK (.condF rfl (.exit fun e h=>?_))) h
 cases h
 simp only [seval,FMI,eInt,Tryz.results152]
 intro v5
 refine Mir.toK (.seqK (.guard fun q8=>.region fun e h=>?_))
 simp only [seval,EMI,und_49,sz_101,zero_101,(oL 1),app_49,al_eInt,q8,eInt]
 refine mU e (.ret fun e h=>?_) h
 cases h
 simp only [seval,FMI,eInt,Tryz.results152]
def it_signed (a0 : Bool) (a1 : (List Int)) : Option ApiInt := bindO (loopX (fun (v1 : Int) => bindO (if (decide (v1 > 0)) = true then bindO (gt a1 (IntKind.i64.wrap (v1 - 1))) fun (e1 : Int) => some (e1 == 0) else some false) fun (v2 : Bool) => if v2 = true then some (.go (IntKind.i64.wrap (v1 - 1))) else some (.ret v1)) fuel (a1.length : Int)) fun (v3 : Int) => bindO (if a0 = true then bindO (cutT a1 v3) fun (s1 : (List Int)) => some (ApiInt.mk (decide (v3 > 0)) s1) else bindO (cutT a1 v3) fun (s2 : (List Int)) => some (ApiInt.mk false s2)) fun (v4 : ApiInt) => some v4
theorem it_signed_spec {a0 : Bool} {a1 : (List Int)} {y : ApiInt} (h : it_signed a0 a1 = some y) : Spec gP 79 [.d (.bool a0), .d (.list (List.map (eInt .u32) a1))] (.agg [.d (.bool y.Neg), .d (.list (List.map (eInt .u32) y.Limbs))]) := by
 refine spec_mir Tryz.func79 rfl (by kernel_rfl) (by kernel_rfl) (fun y : ApiInt => .agg [.d (.bool y.Neg), .d (.list (List.map (eInt .u32) y.Limbs))]) ?_ h
 unfold it_signed
 simp only [List.replicate, List.length, nS, nA, Tryz.ntmps79, SV]
 refine .sR fun e h=>?_
 simp only [seval,EMI,zero_51,eInt]
 refine mU e (.sR fun e h=>?_) h
 simp only [seval,EMI,und_49,eInt]
 refine mU e (.seqK (Mir.joinO (fun v3 : Int=>([.d (.bool a0),.d (.list (List.map (eInt .u32) a1)),U,U,.ptr 0 0,.d (.int .i64 v3)] ++ us 24)) (fun v3=>⟨[[.d (.bool false),.nil]],[]⟩) (fun _=>rfl) ?_ ?_)) h
 refine .block (Mir.loop (fun v1 : Int=>([.d (.bool a0),.d (.list (List.map (eInt .u32) a1)),U,U,.ptr 0 0,.d (.int .i64 v1)] ++ us 24)) (fun v1=>⟨[[.d (.bool false),.nil]],[]⟩) (fun _=>rfl) (by simp only [seval,FMI,eInt]) (by simp only [seval,FMI,eInt]) fun v1=>.seqK (.seqK (Mir.joinO (fun v2 : Bool=>([.d (.bool a0),.d (.list (List.map (eInt .u32) a1)),U,U,.ptr 0 0,.d (.int .i64 v1),U,U,U,U,U,U,U,U,U,U,U,.d (.bool v2)] ++ us 12)) (fun v2=>⟨[[.d (.bool false),.nil]],[]⟩) (fun _=>rfl) ?_ ?_)))
 refine .ite (fun hb29=>?_) (fun hb29=>?_)
 refine .bind fun e1 q30=>?_
 replace q30 := gt_ok q30
 refine .region fun e h=>?_
 simp only [seval,EMI,und_49,sz_101,q30,ag_101,eInt,hb29]
 cases h
 simp only [seval,FMI,eInt,hb29]
 refine .region fun e h=>?_
 simp only [seval,EMI,eInt,hb29]
 cases h
 simp only [seval,FMI,eInt,hb29]
 intro v2
 refine Mir.toK (.cond rfl (fun hb32=>?_) (fun hb32=>?_))
 refine .skip (Mir.toK (.block (.region fun e h=>?_)))
 simp only [seval,EMI,eInt]
 cases h
 simp only [seval,FMI,eInt,Tryz.results79,ag_51,sz_51]
 refine .exit fun e h=>?_
 cases h
 simp only [seval,FMI,eInt,Tryz.results79,ag_51,sz_51]
 intro v3
 refine Mir.toK (.seqK (Mir.joinO (fun v4 : ApiInt=>([U,U,U,U,.ptr 0 0] ++ us 25)) (fun v4=>⟨[[.d (.bool v4.Neg),.d (.list (List.map (eInt .u32) v4.Limbs))]],[]⟩) (fun _=>rfl) ?_ ?_))
 refine .ite (fun hb33=>?_) (fun hb33=>?_)
 refine .bind fun s1 q34=>?_
 replace q34 := cutT_ok q34
 refine .region fun e h=>?_
 simp only [seval,EMI,und_49,sz_101,q34,Nat.le_refl,and_true,true_and,dm,tm,al_eInt,zero_51,pl_51,sz_51,eInt,hb33]
 cases h
 simp only [seval,FMI,eInt,hb33]
 refine .bind fun s2 q35=>?_
 replace q35 := cutT_ok q35
 refine .region fun e h=>?_
 simp only [seval,EMI,und_49,sz_101,q35,Nat.le_refl,and_true,true_and,dm,tm,al_eInt,zero_51,pl_51,sz_51,eInt,hb33]
 cases h
 simp only [seval,FMI,eInt,hb33]
 intro v4
 refine Mir.toK (.ret fun e h=>?_)
 cases h
 simp only [seval,FMI,eInt,Tryz.results79,ag_51,sz_51]
def it_trim (a0 : (List Int)) : Option (List Int) := bindO (loopX (fun (v1 : (List Int)) => bindO (if (decide ((v1.length : Int) > 0)) = true then bindO (gt v1 (IntKind.i64.wrap ((v1.length : Int) - 1))) fun (e1 : Int) => some (e1 == 0) else some false) fun (v2 : Bool) => if v2 = true then bindO (cutT v1 (IntKind.i64.wrap ((v1.length : Int) - 1))) fun (s1 : (List Int)) => some (.go s1) else some (.ret v1)) fuel a0) fun (v3 : (List Int)) => some v3
theorem it_trim_spec {a0 : (List Int)} {y : (List Int)} (h : it_trim a0 = some y) : Spec gP 140 [.d (.list (List.map (eInt .u32) a0))] (.d (.list (List.map (eInt .u32) y))) := by
 refine spec_mir Tryz.func140 rfl (by kernel_rfl) (by kernel_rfl) (fun y : (List Int) => .d (.list (List.map (eInt .u32) y))) ?_ h
 unfold it_trim
 simp only [List.replicate, List.length, nS, nA, Tryz.ntmps140, SV]
 refine .sR fun e h=>?_
 simp only [seval,EMI,eInt]
 refine mU e (.seqK (Mir.joinO (fun v3 : (List Int)=>([.d (.list (List.map (eInt .u32) v3))] ++ us 20)) (fun v3=>⟨[],[]⟩) (fun _=>rfl) ?_ ?_)) h
 refine .block (Mir.loop (fun v1 : (List Int)=>([.d (.list (List.map (eInt .u32) v1))] ++ us 20)) (fun v1=>⟨[],[]⟩) (fun _=>rfl) (by simp only [seval,FMI,eInt]) (by simp only [seval,FMI,eInt]) fun v1=>.seqK (.seqK (Mir.joinO (fun v2 : Bool=>([.d (.list (List.map (eInt .u32) v1)),U,U,U,U,U,U,U,U,U,U,U,U,U,.d (.bool v2)] ++ us 6)) (fun v2=>⟨[],[]⟩) (fun _=>rfl) ?_ ?_)))
 refine .ite (fun hb34=>?_) (fun hb34=>?_)
 refine .bind fun e1 q35=>?_
 replace q35 := gt_ok q35
 refine .region fun e h=>?_
 simp only [seval,EMI,und_49,sz_101,q35,ag_101,eInt,hb34]
 cases h
 simp only [seval,FMI,eInt,hb34]
 refine .region fun e h=>?_
 simp only [seval,EMI,und_49,eInt,hb34]
 cases h
 simp only [seval,FMI,eInt,hb34]
 intro v2
 refine Mir.toK (.cond rfl (fun hb37=>?_) (fun hb37=>?_))
 refine .skip (Mir.toK (.block (.bind fun s1 q38=>?_)))
 replace q38 := cutT_ok q38
 refine .region fun e h=>?_
 simp only [seval,EMI,und_49,sz_101,q38,Nat.le_refl,and_true,true_and,dm,tm,al_eInt,eInt]
 cases h
 simp only [seval,FMI,eInt,Tryz.results140]
 refine .exit fun e h=>?_
 cases h
 simp only [seval,FMI,eInt,Tryz.results140]
 intro v3
 refine Mir.toK (.sR fun e h=>?_)
 simp only [seval,EMI,eInt]
 refine mU e (.ret fun e h=>?_) h
 cases h
 simp only [seval,FMI,eInt,Tryz.results140]
def it_compare (a0 : (List Int)) (a1 : (List Int)) : Option Int := bindO (it_trim a0) fun (y1 : (List Int)) => bindO (it_trim a1) fun (y2 : (List Int)) => if ((y1.length : Int) != (y2.length : Int)) = true then if (decide ((y1.length : Int) < (y2.length : Int))) = true then some (-1) else some 1 else bindX (loopX (fun (v1 : Int) => if (decide (v1 ≥ 0)) = true then bindO (gt y1 v1) fun (e1 : Int) => bindO (gt y2 v1) fun (e2 : Int) => if (decide (e1 < e2)) = true then some (.ret (.ret (-1))) else if (decide (e1 > e2)) = true then some (.ret (.ret 1)) else some (.go (IntKind.i64.wrap (v1 - 1))) else some (.ret (.go ()))) fuel (IntKind.i64.wrap ((y1.length : Int) - 1))) fun (v2 : Unit) => some 0
theorem it_compare_spec {a0 : (List Int)} {a1 : (List Int)} {y : Int} (h : it_compare a0 a1 = some y) : Spec gP 126 [.d (.list (List.map (eInt .u32) a0)), .d (.list (List.map (eInt .u32) a1))] (.d (.int .i64 y)) := by
 refine spec_mir Tryz.func126 rfl (by kernel_rfl) (by kernel_rfl) (fun y : Int => .d (.int .i64 y)) ?_ h
 unfold it_compare
 simp only [List.replicate, List.length, nS, nA, Tryz.ntmps126, SV]
 refine .sR fun e h=>?_
 simp only [seval,EMI,eInt]
 refine mU e (.seqK (.bind fun y1 hy1=>.bind fun y2 hy2=>.region fun e h=>?_)) h
 simp only [seval,EMI,eInt]
 refine SpecS.by (it_trim_spec hy1) (by simp only [seval,FMI,eInt]) ?_
 simp only [seval,EMI,eInt]
 refine SpecS.by (it_trim_spec hy2) (by simp only [seval,FMI,eInt]) ?_
 simp only [seval,EMI,eInt]
 refine mU e (.seqK (.sR fun e h=>?_)) h
 simp only [seval,EMI,und_49,eInt]
 refine mU e (.cond rfl (fun hb6=>?_) (fun hb6=>?_)) h
 refine .seqK (.sR fun e h=>?_)
 simp only [seval,EMI,und_49,eInt]
 refine mU e (.cond rfl (fun hb8=>?_) (fun hb8=>?_)) h
 refine .sR fun e h=>?_
 simp only [seval,EMI,eInt]
 refine mU e (.ret fun e h=>?_) h
 cases h
 simp only [seval,FMI,eInt,Tryz.results126]
 refine .skip (Mir.toK (.sR fun e h=>?_))
 simp only [seval,EMI,eInt]
 refine mU e (.ret fun e h=>?_) h
 cases h
 simp only [seval,FMI,eInt,Tryz.results126]
 refine .skip (Mir.toK (.seqK (.sR fun e h=>?_)))
 simp only [seval,EMI,und_49,eInt]
 refine mU e (Mir.join (fun v2 : Unit=>(us 45)) (fun v2=>⟨[],[]⟩) (fun _=>rfl) ?_ ?_) h
 refine .block (Mir.loop (fun v1 : Int=>([.d (.list (List.map (eInt .u32) y1)),.d (.list (List.map (eInt .u32) y2)),U,U,U,.d (.int .i64 v1)] ++ us 39)) (fun v1=>⟨[],[]⟩) (fun _=>rfl) (by simp only [seval,FMI,eInt]) (by simp only [seval,FMI,eInt]) fun v1=>.seqK (.sR fun e h=>?_))
 simp only [seval,EMI,eInt]
 refine mU e (.cond rfl (fun hb75=>?_) (fun hb75=>?_)) h
 refine .skip (Mir.toK (.seqK (.block (.seqK (.seqK (.bind fun e1 q81=>?_))))))
 replace q81 := gt_ok q81
 refine .bind fun e2 q82=>?_
 replace q82 := gt_ok q82
 refine .regionD [] (by kernel_rfl) fun e h=>?_
 simp only [seval,EMI,SB,und_49,sz_101,q81,ag_101,q82,eInt]
 refine mU e (.cond rfl (fun hb84=>?_) (fun hb84=>?_)) h
 refine .sR fun e h=>?_
 simp only [seval,EMI,eInt]
 refine mU e (.ret fun e h=>?_) h
 cases h
 simp only [seval,FMI,eInt,Tryz.results126]
 refine .skip (Mir.toK (.seqK (.regionD [] (by kernel_rfl) fun e h=>?_)))
 simp only [seval,EMI,SB,und_49,sz_101,q81,ag_101,q82,eInt]
 refine mU e (.cond rfl (fun hb86=>?_) (fun hb86=>?_)) h
 refine .sR fun e h=>?_
 simp only [seval,EMI,eInt]
 refine mU e (.ret fun e h=>?_) h
 cases h
 simp only [seval,FMI,eInt,Tryz.results126]
 refine .skip (Mir.toB (Mir.toK (.region fun e h=>?_)))
 simp only [seval,EMI,eInt]
 cases h
 simp only [seval,FMI,eInt,Tryz.results126]
 refine .exit fun e h=>?_
 cases h
 simp only [seval,FMI,eInt,Tryz.results126]
 intro v2
 refine Mir.toK (.sR fun e h=>?_)
 simp only [seval,EMI,eInt]
 refine mU e (.ret fun e h=>?_) h
 cases h
 simp only [seval,FMI,eInt,Tryz.results126]
def it_minus (a0 : (List Int)) (a1 : (List Int)) : Option (List Int) := guardO (decide ((0 : Int) ≤ (a0.length : Int))) ( guardO (okLen (Int.toNat (a0.length : Int))) ( bindO (guardO (okIdx a0) ( rangeX (fun (i1 : Nat) (e1 : Int) (v1 : Int × (List Int)) => bindO (if (decide ((i1 : Int) < (a1.length : Int))) = true then bindO (gt a1 (i1 : Int)) fun (e2 : Int) => some (IntKind.u32.wrap (v1.1 + e2)) else some v1.1) fun (v2 : Int) => bindO (if (decide (e1 < v2)) = true then some (1, IntKind.u32.wrap (e1 + 1000000000)) else some (0, e1)) fun (v3 : Int × Int) => bindO (gt v1.2 (i1 : Int)) fun (e3 : Int) => some (.go (v3.1, v1.2.set (Int.toNat (i1 : Int)) (IntKind.u32.wrap (v3.2 - v2))))) (fun (v1 : Int × (List Int)) => some v1.2) a0 0 (0, List.replicate (Int.toNat (a0.length : Int)) (0 : Int)))) fun (v4 : (List Int)) => some v4))
theorem it_minus_spec {a0 : (List Int)} {a1 : (List Int)} {y : (List Int)} (h : it_minus a0 a1 = some y) : Spec gP 153 [.d (.list (List.map (eInt .u32) a0)), .d (.list (List.map (eInt .u32) a1))] (.d (.list (List.map (eInt .u32) y))) := by
 refine spec_mir Tryz.func153 rfl (by kernel_rfl) (by kernel_rfl) (fun y : (List Int) => .d (.list (List.map (eInt .u32) y))) ?_ h
 unfold it_minus
 simp only [List.replicate, List.length, nS, nA, Tryz.ntmps153, SV]
 refine .sR fun e h=>?_
 simp only [seval,EMI,eInt,rmap_set,spD]
 refine mU e (.seqK (.guard fun q1=>.guard fun q2=>.regionW fun e h=>regW.alt 2 rfl ?_)) h
 simp only [seval,EMI,w_none,w_eq,und_49,eInt,rmap_set,spD]
 refine alt_makeM (en := (eInt .u32)) (z := 0) rfl rfl app_49 zero_101 rfl rfl (of_decide_eq_true q1) q2 (regW.of ?_)
 simp only [seval,EMI,w_none,w_eq,eInt,rmap_set,spD]
 refine mU e (.sR fun e h=>?_) h
 simp only [seval,EMI,eInt,rmap_set,spD]
 refine mU e (.seqK (.sR fun e h=>?_)) h
 simp only [seval,EMI,und_49,eInt,rmap_set,spD]
 refine mU e (Mir.joinO (fun v4 : (List Int)=>([U,U,U,U,U,.gr 0 0] ++ us 38)) (fun v4=>⟨[[.rowc 101 0 (List.map (eInt .u32) v4)]],[]⟩) (fun _=>rfl) ?_ ?_) h
 refine .block (.guard fun q3=>Mir.range (fun (i1 : Nat) (v1 : Int × (List Int))=>([U,.d (.list (List.map (eInt .u32) a1)),U,U,U,.gr 0 0,.d (.int .u32 v1.1),U,U,U,U,U,U,.d (.list (List.map (eInt .u32) a0)),.d (.int .i64 (a0.length : Int)),.d (.int .i64 (i1 : Int))] ++ us 28)) (fun i1 v1=>⟨[[.rowc 101 0 (List.map (eInt .u32) v1.2)]],[]⟩) q3 (fun _ _=>rfl) (by simp only [seval,FMI,eInt,rmap_set,spD,zNI]) (by simp only [seval,FMI,eInt,rmap_set,spD,zNI]) ?_ ?_)
 intro i1 e1 v1 q4
 refine .sR fun e h=>?_
 simp only [seval,EMI,q4,eInt,rmap_set,spD]
 refine mU e (.seqK (.condT rfl (.skip (Mir.toK (.seqK (.block (.sR fun e h=>?_))))))) h
 simp only [seval,EMI,und_49,sz_101,q4,Int.toNat_natCast,ag_101,eInt,rmap_set,spD]
 refine mU e (.sR fun e h=>?_) h
 simp only [seval,EMI,eInt,rmap_set,spD]
 refine mU e (.seqK (.sR fun e h=>?_)) h
 simp only [seval,EMI,und_49,eInt,rmap_set,spD]
 refine mU e (Mir.joinO (fun v2 : Int=>([U,.d (.list (List.map (eInt .u32) a1)),U,U,U,.gr 0 0,U,.d (.int .i64 (i1 : Int)),.d (.int .u32 e1),.d (.int .u32 v2),U,U,U,.d (.list (List.map (eInt .u32) a0)),.d (.int .i64 (a0.length : Int)),.d (.int .i64 (i1 : Int))] ++ us 28)) (fun v2=>⟨[[.rowc 101 0 (List.map (eInt .u32) v1.2)]],[]⟩) (fun _=>rfl) ?_ ?_) h
 refine .cond rfl (fun h1=>?_) (fun h1=>?_)
 refine .bind fun e2 q5=>?_
 replace q5 := gt_ok q5
 simp only [Int.toNat_natCast] at q5
 refine .region fun e h=>?_
 simp only [seval,EMI,und_49,sz_101,q5,Int.toNat_natCast,ag_101,eInt,rmap_set,spD]
 cases h
 simp only [seval,FMI,eInt,rmap_set,spD,Tryz.results153]
 refine .skip fun e h=>?_
 cases h
 simp only [seval,FMI,eInt,rmap_set,spD,Tryz.results153]
 intro v2
 refine Mir.toK (.sR fun e h=>?_)
 simp only [seval,EMI,eInt,rmap_set,spD]
 refine mU e (.seqK (.sR fun e h=>?_)) h
 simp only [seval,EMI,eInt,rmap_set,spD]
 refine mU e (Mir.joinO (fun v3 : Int × Int=>([U,.d (.list (List.map (eInt .u32) a1)),U,U,U,.gr 0 0,.d (.int .u32 v3.1),.d (.int .i64 (i1 : Int)),.d (.int .u32 v3.2),.d (.int .u32 v2),U,U,U,.d (.list (List.map (eInt .u32) a0)),.d (.int .i64 (a0.length : Int)),.d (.int .i64 (i1 : Int))] ++ us 28)) (fun v3=>⟨[[.rowc 101 0 (List.map (eInt .u32) v1.2)]],[]⟩) (fun _=>rfl) ?_ ?_) h
 refine .cond rfl (fun h2=>?_) (fun h2=>?_)
 refine .region fun e h=>?_
 simp only [seval,EMI,eInt,rmap_set,spD]
 cases h
 simp only [seval,FMI,eInt,rmap_set,spD,Tryz.results153]
 refine .skip fun e h=>?_
 cases h
 simp only [seval,FMI,eInt,rmap_set,spD,Tryz.results153]
 intro v3
 refine Mir.toK (.bind fun e3 q6=>?_)
 replace q6 := gt_ok q6
 refine .regionW fun e h=>regW.alt 5 rfl ?_
 simp only [seval,EMI,w_none,w_eq,eInt,rmap_set,spD]
 refine alt_indexR rfl rfl rfl und_49 sz_101 (row_lo q6.1) (row_hi q6.2 q6.1) (regW.alt 0 rfl ?_)
 simp only [seval,EMI,w_none,w_eq,und_49,sz_101,eInt,rmap_set,spD]
 refine alt_storeR rfl rfl (row_at q6.2) rfl rfl sz_101 rfl (Nat.le_of_ble_eq_true rfl) (regW.of ?_)
 simp only [seval,EMI,w_none,w_eq,sz_101,eInt,rmap_set,spD]
 refine mU e (.region fun e h=>?_) h
 simp only [seval,EMI,eInt,rmap_set,spD]
 cases h
 simp only [seval,FMI,eInt,rmap_set,spD,Tryz.results153,q4]
 intro v1 q7
 refine .sR fun e h=>?_
 simp only [seval,EMI,q7,eInt,rmap_set,spD]
 refine mU e (.seqK (.condF rfl (.exit fun e h=>?_))) h
 cases h
 simp only [seval,FMI,eInt,rmap_set,spD,Tryz.results153]
 intro v4
 refine Mir.toK (.sR fun e h=>?_)
 simp only [seval,EMI,eInt,rmap_set,spD]
 refine mU e (.frz 0 rfl ?_) h
 simp only [seval,us_0,us_s,xCA,xNA,and_self,and_true,true_and,and_false,false_and,SZ]
 refine .ret fun e h=>?_
 cases h
 simp only [seval,FMI,eInt,rmap_set,spD,Tryz.results153]
def it_Add (a0 : ApiInt) (a1 : ApiInt) : Option ApiInt := if (a0.Neg == a1.Neg) = true then bindO (it_plus a0.Limbs a1.Limbs) fun (y1 : (List Int)) => bindO (it_signed a0.Neg y1) fun (y2 : ApiInt) => some y2 else bindO (it_compare a0.Limbs a1.Limbs) fun (y3 : Int) => bindO (if (decide (y3 < 0)) = true then some (a1, a0) else some (a0, a1)) fun (v1 : ApiInt × ApiInt) => bindO (it_minus v1.1.Limbs v1.2.Limbs) fun (y4 : (List Int)) => bindO (it_signed v1.1.Neg y4) fun (y5 : ApiInt) => some y5
theorem it_Add_spec {a0 : ApiInt} {a1 : ApiInt} {y : ApiInt} (h : it_Add a0 a1 = some y) : Spec gP 145 [.agg [.d (.bool a0.Neg), .d (.list (List.map (eInt .u32) a0.Limbs))], .agg [.d (.bool a1.Neg), .d (.list (List.map (eInt .u32) a1.Limbs))]] (.agg [.d (.bool y.Neg), .d (.list (List.map (eInt .u32) y.Limbs))]) := by
 refine spec_mir Tryz.func145 rfl (by kernel_rfl) (by kernel_rfl) (fun y : ApiInt => .agg [.d (.bool y.Neg), .d (.list (List.map (eInt .u32) y.Limbs))]) ?_ h
 unfold it_Add
 simp only [List.replicate, List.length, nS, nA, Tryz.ntmps145, SV]
 refine .sR fun e h=>?_
 simp only [seval,EMI,zero_51,eInt]
 refine mU e (.seqK (.sR fun e h=>?_)) h
 simp only [seval,EMI,fld_51_0,sz_4,ag_4,und_4,eInt]
 refine mU e (.cond rfl (fun hb4=>?_) (fun hb4=>?_)) h
 refine .seqK (.bind fun y1 hy5=>.bind fun y2 hy6=>.regionD [] (by kernel_rfl) fun e h=>?_)
 simp only [seval,EMI,SB,fld_51_0,sz_4,ag_4,fld_51_1,sz_49,ag_49,eInt]
 refine Spec.by (it_plus_spec hy5) (by simp only [seval,FMI,eInt]) ?_
 simp only [seval,EMI,SB,eInt]
 refine Spec.by (it_signed_spec hy6) (by simp only [seval,FMI,eInt]) ?_
 simp only [seval,EMI,SB,sz_51,eInt]
 refine mU e (.ret fun e h=>?_) h
 cases h
 simp only [seval,FMI,eInt,Tryz.results145,ag_51,sz_51]
 refine .skip (Mir.toK (.seqK (.seqK (.bind fun y3 hy7=>.region fun e h=>?_))))
 simp only [seval,EMI,fld_51_1,sz_49,ag_49,eInt]
 refine SpecS.by (it_compare_spec hy7) (by simp only [seval,FMI,eInt]) ?_
 simp only [seval,EMI,eInt]
 refine mU e (Mir.joinO (fun v1 : ApiInt × ApiInt=>([U,U,.ptr 0 0,.ptr 1 0,.ptr 2 0] ++ us 29)) (fun v1=>⟨[[.d (.bool v1.1.Neg),.d (.list (List.map (eInt .u32) v1.1.Limbs))],[.d (.bool v1.2.Neg),.d (.list (List.map (eInt .u32) v1.2.Limbs))],[.d (.bool false),.nil]],[]⟩) (fun _=>rfl) ?_ ?_) h
 refine .cond rfl (fun hb9=>?_) (fun hb9=>?_)
 refine .region fun e h=>?_
 simp only [seval,EMI,ag_51,sz_51,eInt]
 cases h
 simp only [seval,FMI,eInt,Tryz.results145,ag_51,sz_51]
 refine .skip fun e h=>?_
 cases h
 simp only [seval,FMI,eInt,Tryz.results145,ag_51,sz_51]
 intro v1
 refine Mir.toK (.seqK (.bind fun y4 hy10=>.bind fun y5 hy11=>.regionD [] (by kernel_rfl) fun e h=>?_))
 simp only [seval,EMI,SB,fld_51_0,sz_4,ag_4,fld_51_1,sz_49,ag_49,eInt]
 refine Spec.by (it_minus_spec hy10) (by simp only [seval,FMI,eInt]) ?_
 simp only [seval,EMI,SB,eInt]
 refine Spec.by (it_signed_spec hy11) (by simp only [seval,FMI,eInt]) ?_
 simp only [seval,EMI,SB,sz_51,eInt]
 refine mU e (.ret fun e h=>?_) h
 cases h
 simp only [seval,FMI,eInt,Tryz.results145,ag_51,sz_51]
def it_Neg (a0 : ApiInt) : Option ApiInt := guardO (okLen (a0.Limbs.length)) ( bindO (it_signed (!a0.Neg) a0.Limbs) fun (y1 : ApiInt) => some y1)
theorem it_Neg_spec {a0 : ApiInt} {y : ApiInt} (h : it_Neg a0 = some y) : Spec gP 92 [.agg [.d (.bool a0.Neg), .d (.list (List.map (eInt .u32) a0.Limbs))]] (.agg [.d (.bool y.Neg), .d (.list (List.map (eInt .u32) y.Limbs))]) := by
 refine spec_mir Tryz.func92 rfl (by kernel_rfl) (by kernel_rfl) (fun y : ApiInt => .agg [.d (.bool y.Neg), .d (.list (List.map (eInt .u32) y.Limbs))]) ?_ h
 unfold it_Neg
 simp only [List.replicate, List.length, nS, nA, Tryz.ntmps92, SV]
 refine .sR fun e h=>?_
 simp only [seval,EMI,zero_51,eInt]
 refine mU e (.seqK (.guard fun q1=>.bind fun y1 hy2=>.regionD [] (by kernel_rfl) fun e h=>?_)) h
 simp only [seval,EMI,SB,fld_51_0,sz_4,ag_4,fld_51_1,sz_49,ag_49,app_49,al_eInt,q1,eInt]
 refine Spec.by (it_signed_spec hy2) (by simp only [seval,FMI,eInt]) ?_
 simp only [seval,EMI,SB,sz_51,eInt]
 refine mU e (.ret fun e h=>?_) h
 cases h
 simp only [seval,FMI,eInt,Tryz.results92,ag_51,sz_51]
def it_times (a0 : (List Int)) (a1 : (List Int)) : Option (List Int) := guardO (decide ((0 : Int) ≤ (IntKind.i64.wrap ((a0.length : Int) + (a1.length : Int))))) ( guardO (okLen (Int.toNat (IntKind.i64.wrap ((a0.length : Int) + (a1.length : Int))))) ( bindO (guardO (okIdx a0) ( rangeX (fun (i1 : Nat) (e1 : Int) (v1 : (List Int)) => bindO (bindO (guardO (okIdx a1) ( rangeX (fun (i2 : Nat) (e2 : Int) (v2 : Int × (List Int)) => bindO (gt v2.2 (IntKind.i64.wrap ((i1 : Int) + (i2 : Int)))) fun (e3 : Int) => bindO (gt v2.2 (IntKind.i64.wrap ((i1 : Int) + (i2 : Int)))) fun (e4 : Int) => some (.go (IntKind.u64.wrap (Int.tdiv (IntKind.u64.wrap ((IntKind.u64.wrap ((IntKind.u64.wrap e3) + (IntKind.u64.wrap ((IntKind.u64.wrap e1) * (IntKind.u64.wrap e2))))) + v2.1)) 1000000000), v2.2.set (Int.toNat (IntKind.i64.wrap ((i1 : Int) + (i2 : Int)))) (IntKind.u32.wrap (Int.tmod (IntKind.u64.wrap ((IntKind.u64.wrap ((IntKind.u64.wrap e3) + (IntKind.u64.wrap ((IntKind.u64.wrap e1) * (IntKind.u64.wrap e2))))) + v2.1)) 1000000000))))) (fun (v2 : Int × (List Int)) => some (v2.1, v2.2)) a1 0 (0, v1))) fun (v3 : Int × (List Int)) => bindO (gt v3.2 (IntKind.i64.wrap ((i1 : Int) + (a1.length : Int)))) fun (e5 : Int) => some (v3.2.set (Int.toNat (IntKind.i64.wrap ((i1 : Int) + (a1.length : Int)))) (IntKind.u32.wrap v3.1))) fun (v4 : (List Int)) => some (.go v4)) (fun (v1 : (List Int)) => some v1) a0 0 (List.replicate (Int.toNat (IntKind.i64.wrap ((a0.length : Int) + (a1.length : Int)))) (0 : Int)))) fun (v5 : (List Int)) => some v5))
theorem it_times_spec {a0 : (List Int)} {a1 : (List Int)} {y : (List Int)} (h : it_times a0 a1 = some y) : Spec gP 97 [.d (.list (List.map (eInt .u32) a0)), .d (.list (List.map (eInt .u32) a1))] (.d (.list (List.map (eInt .u32) y))) := by
 refine spec_mir Tryz.func97 rfl (by kernel_rfl) (by kernel_rfl) (fun y : (List Int) => .d (.list (List.map (eInt .u32) y))) ?_ h
 unfold it_times
 simp only [List.replicate, List.length, nS, nA, Tryz.ntmps97, SV]
 refine .sR fun e h=>?_
 simp only [seval,EMI,eInt,rmap_set,spD]
 refine mU e (.seqK (.guard fun q1=>.guard fun q2=>.regionW fun e h=>regW.alt 5 rfl ?_)) h
 simp only [seval,EMI,w_none,w_eq,und_49,eInt,rmap_set,spD]
 refine alt_makeM (en := (eInt .u32)) (z := 0) rfl rfl app_49 zero_101 rfl rfl (of_decide_eq_true q1) q2 (regW.of ?_)
 simp only [seval,EMI,w_none,w_eq,eInt,rmap_set,spD]
 refine mU e (.seqK (.sR fun e h=>?_)) h
 simp only [seval,EMI,und_49,eInt,rmap_set,spD]
 refine mU e (Mir.joinO (fun v5 : (List Int)=>([U,U,U,U,U,.gr 0 0] ++ us 62)) (fun v5=>⟨[[.rowc 101 0 (List.map (eInt .u32) v5)]],[]⟩) (fun _=>rfl) ?_ ?_) h
 refine .block (.guard fun q3=>Mir.range (fun (i1 : Nat) (v1 : (List Int))=>([U,.d (.list (List.map (eInt .u32) a1)),U,U,U,.gr 0 0,U,U,U,U,U,U,U,U,U,U,U,U,.d (.list (List.map (eInt .u32) a0)),.d (.int .i64 (a0.length : Int)),.d (.int .i64 (i1 : Int))] ++ us 47)) (fun i1 v1=>⟨[[.rowc 101 0 (List.map (eInt .u32) v1)]],[]⟩) q3 (fun _ _=>rfl) (by simp only [seval,FMI,eInt,rmap_set,spD,zNI]) (by simp only [seval,FMI,eInt,rmap_set,spD,zNI]) ?_ ?_)
 intro i1 e1 v1 q4
 refine .sR fun e h=>?_
 simp only [seval,EMI,q4,eInt,rmap_set,spD]
 refine mU e (.seqK (.condT rfl (.skip (Mir.toK (.seqK (Mir.joinO (fun v4 : (List Int)=>([U,.d (.list (List.map (eInt .u32) a1)),U,U,U,.gr 0 0,U,U,U,U,U,U,U,U,U,U,U,U,.d (.list (List.map (eInt .u32) a0)),.d (.int .i64 (a0.length : Int)),.d (.int .i64 (i1 : Int))] ++ us 47)) (fun v4=>⟨[[.rowc 101 0 (List.map (eInt .u32) v4)]],[]⟩) (fun _=>rfl) ?_ ?_)))))) h
 refine .block (.sR fun e h=>?_)
 simp only [seval,EMI,und_49,sz_101,q4,Int.toNat_natCast,ag_101,eInt,rmap_set,spD]
 refine mU e (.sR fun e h=>?_) h
 simp only [seval,EMI,eInt,rmap_set,spD]
 refine mU e (.seqK (.sR fun e h=>?_)) h
 simp only [seval,EMI,und_49,eInt,rmap_set,spD]
 refine mU e (Mir.joinO (fun v3 : Int × (List Int)=>([U,.d (.list (List.map (eInt .u32) a1)),U,U,U,.gr 0 0,.d (.int .i64 (i1 : Int)),U,.d (.int .u64 v3.1),U,U,U,U,U,U,U,U,U,.d (.list (List.map (eInt .u32) a0)),.d (.int .i64 (a0.length : Int)),.d (.int .i64 (i1 : Int))] ++ us 47)) (fun v3=>⟨[[.rowc 101 0 (List.map (eInt .u32) v3.2)]],[]⟩) (fun _=>rfl) ?_ ?_) h
 refine .block (.guard fun q5=>Mir.range (fun (i2 : Nat) (v2 : Int × (List Int))=>([U,.d (.list (List.map (eInt .u32) a1)),U,U,U,.gr 0 0,.d (.int .i64 (i1 : Int)),.d (.int .u32 e1),.d (.int .u64 v2.1),U,U,U,U,U,U,U,U,U,.d (.list (List.map (eInt .u32) a0)),.d (.int .i64 (a0.length : Int)),.d (.int .i64 (i1 : Int)),U,U,U,U,.d (.list (List.map (eInt .u32) a1)),.d (.int .i64 (a1.length : Int)),.d (.int .i64 (i2 : Int))] ++ us 40)) (fun i2 v2=>⟨[[.rowc 101 0 (List.map (eInt .u32) v2.2)]],[]⟩) q5 (fun _ _=>rfl) (by simp only [seval,FMI,eInt,rmap_set,spD,zNI]) (by simp only [seval,FMI,eInt,rmap_set,spD,zNI]) ?_ ?_)
 intro i2 e2 v2 q6
 refine .sR fun e h=>?_
 simp only [seval,EMI,q6,eInt,rmap_set,spD]
 refine mU e (.seqK (.condT rfl (.skip (Mir.toK (.seqK (.block (.sR fun e h=>?_))))))) h
 simp only [seval,EMI,und_49,sz_101,q6,Int.toNat_natCast,ag_101,eInt,rmap_set,spD]
 refine mU e (.seqK (.bind fun e3 q7=>?_)) h
 replace q7 := gt_ok q7
 refine .regionW fun e h=>regW.alt 4 rfl ?_
 simp only [seval,EMI,w_none,w_eq,eInt,rmap_set,spD]
 refine alt_indexR rfl rfl rfl und_49 sz_101 (row_lo q7.1) (row_hi q7.2 q7.1) (regW.alt 0 rfl ?_)
 simp only [seval,EMI,w_none,w_eq,und_49,sz_101,eInt,rmap_set,spD]
 refine alt_loadR rfl rfl (row_at q7.2) (by simp only [↓reduceIte,nA,nL,pt_eq,ag_101,sz_101,dc_cons,dc_nil,SV,eInt] <;> rfl) (regW.of ?_)
 simp only [seval,EMI,w_none,w_eq,ag_101,sz_101,und_101,und_104,eInt,rmap_set,spD]
 refine mU e (.bind fun e4 q8=>?_) h
 replace q8 := gt_ok q8
 refine .regionW fun e h=>regW.alt 9 rfl ?_
 simp only [seval,EMI,w_none,w_eq,und_104,und_101,eInt,rmap_set,spD]
 refine alt_indexR rfl rfl rfl und_49 sz_101 (row_lo q8.1) (row_hi q8.2 q8.1) (regW.alt 0 rfl ?_)
 simp only [seval,EMI,w_none,w_eq,und_49,sz_101,eInt,rmap_set,spD]
 refine alt_storeR rfl rfl (row_at q8.2) rfl rfl sz_101 rfl (Nat.le_of_ble_eq_true rfl) (regW.of ?_)
 simp only [seval,EMI,w_none,w_eq,sz_101,eInt,rmap_set,spD]
 refine mU e (.region fun e h=>?_) h
 simp only [seval,EMI,eInt,rmap_set,spD]
 cases h
 simp only [seval,FMI,eInt,rmap_set,spD,Tryz.results97,q6]
 intro v2 q9
 refine .sR fun e h=>?_
 simp only [seval,EMI,q9,eInt,rmap_set,spD]
 refine mU e (.seqK (.condF rfl (.exit fun e h=>?_))) h
 cases h
 simp only [seval,FMI,eInt,rmap_set,spD,Tryz.results97]
 intro v3
 refine Mir.toK (.bind fun e5 q10=>?_)
 replace q10 := gt_ok q10
 refine .regionW fun e h=>regW.alt 7 rfl ?_
 simp only [seval,EMI,w_none,w_eq,und_49,und_104,und_101,eInt,rmap_set,spD]
 refine alt_indexR rfl rfl rfl und_49 sz_101 (row_lo q10.1) (row_hi q10.2 q10.1) (regW.alt 0 rfl ?_)
 simp only [seval,EMI,w_none,w_eq,und_49,sz_101,eInt,rmap_set,spD]
 refine alt_storeR rfl rfl (row_at q10.2) rfl rfl sz_101 rfl (Nat.le_of_ble_eq_true rfl) (regW.of ?_)
 simp only [seval,EMI,w_none,w_eq,sz_101,eInt,rmap_set,spD]
 cases h
 simp only [seval,FMI,eInt,rmap_set,spD,Tryz.results97]
 intro v4
 refine Mir.toK (.region fun e h=>?_)
 simp only [seval,EMI,eInt,rmap_set,spD]
 cases h
 simp only [seval,FMI,eInt,rmap_set,spD,Tryz.results97,q4]
 intro v1 q11
 refine .sR fun e h=>?_
 simp only [seval,EMI,q11,eInt,rmap_set,spD]
 refine mU e (.seqK (.condF rfl (.exit fun e h=>?_))) h
 cases h
 simp only [seval,FMI,eInt,rmap_set,spD,Tryz.results97]
 intro v5
 refine Mir.toK (.sR fun e h=>?_)
 simp only [seval,EMI,eInt,rmap_set,spD]
 refine mU e (.frz 0 rfl ?_) h
 simp only [seval,us_0,us_s,xCA,xNA,and_self,and_true,true_and,and_false,false_and,SZ]
 refine .ret fun e h=>?_
 cases h
 simp only [seval,FMI,eInt,rmap_set,spD,Tryz.results97]
def it_Mul (a0 : ApiInt) (a1 : ApiInt) : Option ApiInt := bindO (it_times a0.Limbs a1.Limbs) fun (y1 : (List Int)) => bindO (it_signed (!(a0.Neg == a1.Neg)) y1) fun (y2 : ApiInt) => some y2
theorem it_Mul_spec {a0 : ApiInt} {a1 : ApiInt} {y : ApiInt} (h : it_Mul a0 a1 = some y) : Spec gP 67 [.agg [.d (.bool a0.Neg), .d (.list (List.map (eInt .u32) a0.Limbs))], .agg [.d (.bool a1.Neg), .d (.list (List.map (eInt .u32) a1.Limbs))]] (.agg [.d (.bool y.Neg), .d (.list (List.map (eInt .u32) y.Limbs))]) := by
 refine spec_mir Tryz.func67 rfl (by kernel_rfl) (by kernel_rfl) (fun y : ApiInt => .agg [.d (.bool y.Neg), .d (.list (List.map (eInt .u32) y.Limbs))]) ?_ h
 unfold it_Mul
 simp only [List.replicate, List.length, nS, nA, Tryz.ntmps67, SV]
 refine .sR fun e h=>?_
 simp only [seval,EMI,zero_51,eInt]
 refine mU e (.seqK (.bind fun y1 hy1=>.bind fun y2 hy2=>.regionD [] (by kernel_rfl) fun e h=>?_)) h
 simp only [seval,EMI,SB,fld_51_0,sz_4,ag_4,und_4,fld_51_1,sz_49,ag_49,eInt]
 refine Spec.by (it_times_spec hy1) (by simp only [seval,FMI,eInt]) ?_
 simp only [seval,EMI,SB,eInt]
 refine Spec.by (it_signed_spec hy2) (by simp only [seval,FMI,eInt]) ?_
 simp only [seval,EMI,SB,sz_51,eInt]
 refine mU e (.ret fun e h=>?_) h
 cases h
 simp only [seval,FMI,eInt,Tryz.results67,ag_51,sz_51]
def it_byWord (a0 : (List Int)) (a1 : Int) : Option ((List Int) × (List Int)) := guardO (decide ((0 : Int) ≤ (a0.length : Int))) ( guardO (okLen (Int.toNat (a0.length : Int))) ( bindO (loopX (fun (v1 : Int × Int × (List Int)) => if (decide (v1.2.1 ≥ 0)) = true then bindO (gt a0 v1.2.1) fun (e1 : Int) => guardO (!((IntKind.u64.wrap a1) == 0)) ( guardO (!((IntKind.u64.wrap a1) == 0)) ( bindO (gt v1.2.2 v1.2.1) fun (e2 : Int) => some (.go (Int.tmod (IntKind.u64.wrap ((IntKind.u64.wrap (v1.1 * 1000000000)) + (IntKind.u64.wrap e1))) (IntKind.u64.wrap a1), IntKind.i64.wrap (v1.2.1 - 1), v1.2.2.set (Int.toNat v1.2.1) (IntKind.u32.wrap (IntKind.u64.wrap (Int.tdiv (IntKind.u64.wrap ((IntKind.u64.wrap (v1.1 * 1000000000)) + (IntKind.u64.wrap e1))) (IntKind.u64.wrap a1)))))))) else some (.ret (v1.1, v1.2.2))) fuel (0, IntKind.i64.wrap ((a0.length : Int) - 1), List.replicate (Int.toNat (a0.length : Int)) (0 : Int))) fun (v2 : Int × (List Int)) => some (v2.2, [IntKind.u32.wrap v2.1])))
theorem it_byWord_spec {a0 : (List Int)} {a1 : Int} {y : (List Int) × (List Int)} (h : it_byWord a0 a1 = some y) : Spec gP 141 [.d (.list (List.map (eInt .u32) a0)), .d (.int .u32 a1)] (.tuple [.d (.list (List.map (eInt .u32) y.1)), .d (.list (List.map (eInt .u32) y.2))]) := by
 refine spec_mir Tryz.func141 rfl (by kernel_rfl) (by kernel_rfl) (fun y : (List Int) × (List Int) => .tuple [.d (.list (List.map (eInt .u32) y.1)), .d (.list (List.map (eInt .u32) y.2))]) ?_ h
 unfold it_byWord
 simp only [List.replicate, List.length, nS, nA, Tryz.ntmps141, SV]
 refine .sR fun e h=>?_
 simp only [seval,EMI,eInt,rmap_set,spD]
 refine mU e (.seqK (.guard fun q1=>.guard fun q2=>.regionW fun e h=>regW.alt 2 rfl ?_)) h
 simp only [seval,EMI,w_none,w_eq,und_49,eInt,rmap_set,spD]
 refine alt_makeM (en := (eInt .u32)) (z := 0) rfl rfl app_49 zero_101 rfl rfl (of_decide_eq_true q1) q2 (regW.of ?_)
 simp only [seval,EMI,w_none,w_eq,eInt,rmap_set,spD]
 refine mU e (.sR fun e h=>?_) h
 simp only [seval,EMI,eInt,rmap_set,spD]
 refine mU e (.seqK (.sR fun e h=>?_)) h
 simp only [seval,EMI,und_49,eInt,rmap_set,spD]
 refine mU e (Mir.joinO (fun v2 : Int × (List Int)=>([U,U,U,U,U,U,.gr 0 0,.d (.int .u64 v2.1)] ++ us 36)) (fun v2=>⟨[[.rowc 101 0 (List.map (eInt .u32) v2.2)]],[]⟩) (fun _=>rfl) ?_ ?_) h
 refine .block (Mir.loop (fun v1 : Int × Int × (List Int)=>([.d (.list (List.map (eInt .u32) a0)),.d (.int .u32 a1),U,U,U,U,.gr 0 0,.d (.int .u64 v1.1),.d (.int .i64 v1.2.1)] ++ us 35)) (fun v1=>⟨[[.rowc 101 0 (List.map (eInt .u32) v1.2.2)]],[]⟩) (fun _=>rfl) (by simp only [seval,FMI,eInt,rmap_set,spD]) (by simp only [seval,FMI,eInt,rmap_set,spD]) fun v1=>.seqK (.sR fun e h=>?_))
 simp only [seval,EMI,eInt,rmap_set,spD]
 refine mU e (.cond rfl (fun hb54=>?_) (fun hb54=>?_)) h
 refine .skip (Mir.toK (.seqK (.block (.seqK (.bind fun e1 q59=>?_)))))
 replace q59 := gt_ok q59
 refine .region fun e h=>?_
 simp only [seval,EMI,und_49,sz_101,q59,ag_101,und_101,und_104,eInt,rmap_set,spD]
 refine mU e (.guard fun q60=>?_) h
 replace q60 := ne_of q60
 refine .guard fun q61=>?_
 replace q61 := ne_of q61
 refine .bind fun e2 q62=>?_
 replace q62 := gt_ok q62
 refine Mir.regionA 0 [] ([.d (.list (List.map (eInt .u32) a0)),.d (.int .u32 a1),U,U,U,U,.gr 0 0,.d (.int .u64 (Int.tmod (IntKind.u64.wrap ((IntKind.u64.wrap (v1.1 * 1000000000)) + (IntKind.u64.wrap e1))) (IntKind.u64.wrap a1))),.d (.int .i64 v1.2.1),.d (.int .u64 (IntKind.u64.wrap ((IntKind.u64.wrap (v1.1 * 1000000000)) + (IntKind.u64.wrap e1)))),U,U,U,U,U,U,.d (.int .i64 v1.2.1),.d (.bool (decide (v1.2.1 ≥ 0))),U,U,.d (.int .u64 v1.1),.d (.int .u64 (IntKind.u64.wrap (v1.1 * 1000000000))),.d (.list (List.map (eInt .u32) a0)),.d (.int .i64 v1.2.1),.iptr [.int .u32 e1] 0,.d (.int .u32 e1),.d (.int .u64 (IntKind.u64.wrap e1)),.d (.int .u64 (IntKind.u64.wrap ((IntKind.u64.wrap (v1.1 * 1000000000)) + (IntKind.u64.wrap e1)))),.gr 0 0,.d (.int .i64 v1.2.1),.d (.int .u64 (IntKind.u64.wrap ((IntKind.u64.wrap (v1.1 * 1000000000)) + (IntKind.u64.wrap e1)))),.d (.int .u32 a1),.d (.int .u64 (IntKind.u64.wrap a1)),.d (.int .u64 (IntKind.u64.wrap (Int.tdiv (IntKind.u64.wrap ((IntKind.u64.wrap (v1.1 * 1000000000)) + (IntKind.u64.wrap e1))) (IntKind.u64.wrap a1)))),.d (.int .u32 (IntKind.u32.wrap (IntKind.u64.wrap (Int.tdiv (IntKind.u64.wrap ((IntKind.u64.wrap (v1.1 * 1000000000)) + (IntKind.u64.wrap e1))) (IntKind.u64.wrap a1))))),.d (.int .u64 (IntKind.u64.wrap ((IntKind.u64.wrap (v1.1 * 1000000000)) + (IntKind.u64.wrap e1)))),.d (.int .u32 a1),.d (.int .u64 (IntKind.u64.wrap a1)),.d (.int .u64 (Int.tmod (IntKind.u64.wrap ((IntKind.u64.wrap (v1.1 * 1000000000)) + (IntKind.u64.wrap e1))) (IntKind.u64.wrap a1))),.gp 0 0 (Int.toNat v1.2.1) 0] ++ us 4) ⟨[[.rowc 101 0 (List.map (eInt .u32) (v1.2.2.set (Int.toNat v1.2.1) (IntKind.u32.wrap (IntKind.u64.wrap (Int.tdiv (IntKind.u64.wrap ((IntKind.u64.wrap (v1.1 * 1000000000)) + (IntKind.u64.wrap e1))) (IntKind.u64.wrap a1))))))]],[]⟩ (by kernel_rfl) (fun e h=>?_) (fun e h=>?_)
 simp only [seval,EMI,w_none,w_eq,SB,eInt,rmap_set,spD]
 refine regA.pureB (j := 1) (d := 29) (by kernel_rfl) rfl rfl (by kernel_rfl) rfl rfl (Nat.le_of_ble_eq_true rfl) ?_
 simp only [seval,EMI,w_none,w_eq,eInt,rmap_set,spD]
 refine ⟨rfl,?_⟩
 refine regA.pureB (j := 2) (d := 30) (by kernel_rfl) rfl rfl (by kernel_rfl) rfl rfl (Nat.le_of_ble_eq_true rfl) ?_
 simp only [seval,EMI,w_none,w_eq,eInt,rmap_set,spD]
 refine ⟨rfl,?_⟩
 refine regA.pureB (j := 3) (d := 31) (by kernel_rfl) rfl rfl (by kernel_rfl) rfl rfl (Nat.le_of_ble_eq_true rfl) ?_
 simp only [seval,EMI,w_none,w_eq,eInt,rmap_set,spD]
 refine ⟨rfl,?_⟩
 refine regA.pureB (j := 4) (d := 32) (by kernel_rfl) rfl rfl (by kernel_rfl) rfl rfl (Nat.le_of_ble_eq_true rfl) ?_
 simp only [seval,EMI,w_none,w_eq,und_101,und_104,eInt,rmap_set,spD]
 refine ⟨rfl,?_⟩
 refine regA.pureB (j := 7) (d := 35) (by kernel_rfl) rfl rfl (by kernel_rfl) rfl rfl (Nat.le_of_ble_eq_true rfl) ?_
 simp only [seval,EMI,w_none,w_eq,eInt,rmap_set,spD]
 refine ⟨rfl,?_⟩
 refine regA.pureB (j := 8) (d := 36) (by kernel_rfl) rfl rfl (by kernel_rfl) rfl rfl (Nat.le_of_ble_eq_true rfl) ?_
 simp only [seval,EMI,w_none,w_eq,eInt,rmap_set,spD]
 refine ⟨rfl,?_⟩
 refine regA.pureB (j := 9) (d := 37) (by kernel_rfl) rfl rfl (by kernel_rfl) rfl rfl (Nat.le_of_ble_eq_true rfl) ?_
 simp only [seval,EMI,w_none,w_eq,und_101,und_104,eInt,rmap_set,spD]
 refine ⟨rfl,?_⟩
 refine regA.three (j := 0) (k := 5) (l := 10) (by kernel_rfl) rfl rfl rfl ?_ ?_ ?_
 refine regW.of ?_
 simp only [seval,EMI,w_none,w_eq,eInt,rmap_set,spD]
 refine regA.two (j := 5) (k := 10) (by kernel_rfl) rfl rfl ?_ ?_
 refine regW.of ?_
 simp only [seval,EMI,w_none,w_eq,q60,eInt,rmap_set,spD]
 refine regA.pureB (j := 6) (d := 34) (by kernel_rfl) rfl rfl (by kernel_rfl) rfl rfl (Nat.le_of_ble_eq_true rfl) ?_
 simp only [seval,EMI,w_none,w_eq,und_104,und_101,eInt,rmap_set,spD]
 refine ⟨rfl,?_⟩
 refine regA.two (j := 10) (k := 11) (by kernel_rfl) rfl rfl ?_ ?_
 refine regW.of ?_
 simp only [seval,EMI,w_none,w_eq,q61,eInt,rmap_set,spD]
 refine regA.one (j := 11) (by kernel_rfl) rfl (regW.alt 0 rfl ?_)
 simp only [seval,EMI,w_none,w_eq,eInt,rmap_set,spD]
 refine alt_indexR rfl rfl rfl und_49 sz_101 (row_lo q62.1) (row_hi q62.2 q62.1) (regW.of ?_)
 simp only [seval,EMI,w_none,w_eq,und_49,sz_101,eInt,rmap_set,spD]
 refine regA.one (j := 12) (by kernel_rfl) rfl (regW.alt 0 rfl ?_)
 simp only [seval,EMI,w_none,w_eq,eInt,rmap_set,spD]
 refine alt_storeR rfl rfl (row_at q62.2) rfl rfl sz_101 rfl (Nat.le_of_ble_eq_true rfl) (regW.of ?_)
 simp only [seval,EMI,w_none,w_eq,sz_101,eInt,rmap_set,spD]
 refine regA.pureB (j := 13) (d := 7) (by kernel_rfl) rfl rfl (by kernel_rfl) rfl rfl (Nat.le_of_ble_eq_true rfl) ?_
 simp only [seval,EMI,w_none,w_eq,eInt,rmap_set,spD]
 refine ⟨rfl,?_⟩
 exact regA.nil (by kernel_rfl) ⟨rfl,rfl⟩
 refine regW.alt 0 rfl ?_
 simp only [seval,EMI,w_none,w_eq,eInt,rmap_set,spD]
 refine alt_indexR rfl rfl rfl und_49 sz_101 (row_lo q62.1) (row_hi q62.2 q62.1) (regW.of ?_)
 simp only [seval,EMI,w_none,w_eq,und_49,sz_101,eInt,rmap_set,spD]
 refine regA.two (j := 10) (k := 12) (by kernel_rfl) rfl rfl ?_ ?_
 refine regW.of ?_
 simp only [seval,EMI,w_none,w_eq,q61,eInt,rmap_set,spD]
 refine regA.one (j := 12) (by kernel_rfl) rfl (regW.alt 0 rfl ?_)
 simp only [seval,EMI,w_none,w_eq,eInt,rmap_set,spD]
 refine alt_storeR rfl rfl (row_at q62.2) rfl rfl sz_101 rfl (Nat.le_of_ble_eq_true rfl) (regW.of ?_)
 simp only [seval,EMI,w_none,w_eq,sz_101,eInt,rmap_set,spD]
 refine regA.pureB (j := 13) (d := 7) (by kernel_rfl) rfl rfl (by kernel_rfl) rfl rfl (Nat.le_of_ble_eq_true rfl) ?_
 simp only [seval,EMI,w_none,w_eq,eInt,rmap_set,spD]
 refine ⟨rfl,?_⟩
 exact regA.nil (by kernel_rfl) ⟨rfl,rfl⟩
 refine regW.alt 0 rfl ?_
 simp only [seval,EMI,w_none,w_eq,eInt,rmap_set,spD]
 refine alt_storeR rfl rfl (row_at q62.2) rfl rfl sz_101 rfl (Nat.le_of_ble_eq_true rfl) (regW.of ?_)
 simp only [seval,EMI,w_none,w_eq,sz_101,eInt,rmap_set,spD]
 refine regA.one (j := 10) (by kernel_rfl) rfl (regW.of ?_)
 simp only [seval,EMI,w_none,w_eq,q61,eInt,rmap_set,spD]
 refine regA.pureB (j := 13) (d := 7) (by kernel_rfl) rfl rfl (by kernel_rfl) rfl rfl (Nat.le_of_ble_eq_true rfl) ?_
 simp only [seval,EMI,w_none,w_eq,eInt,rmap_set,spD]
 refine ⟨rfl,?_⟩
 exact regA.nil (by kernel_rfl) ⟨rfl,rfl⟩
 refine regW.of ?_
 simp only [seval,EMI,w_none,w_eq,q61,eInt,rmap_set,spD]
 refine regA.one (j := 5) (by kernel_rfl) rfl (regW.of ?_)
 simp only [seval,EMI,w_none,w_eq,q60,eInt,rmap_set,spD]
 refine regA.pureB (j := 6) (d := 34) (by kernel_rfl) rfl rfl (by kernel_rfl) rfl rfl (Nat.le_of_ble_eq_true rfl) ?_
 simp only [seval,EMI,w_none,w_eq,und_104,und_101,eInt,rmap_set,spD]
 refine ⟨rfl,?_⟩
 refine regA.one (j := 11) (by kernel_rfl) rfl (regW.alt 0 rfl ?_)
 simp only [seval,EMI,w_none,w_eq,eInt,rmap_set,spD]
 refine alt_indexR rfl rfl rfl und_49 sz_101 (row_lo q62.1) (row_hi q62.2 q62.1) (regW.of ?_)
 simp only [seval,EMI,w_none,w_eq,und_49,sz_101,eInt,rmap_set,spD]
 refine regA.one (j := 12) (by kernel_rfl) rfl (regW.alt 0 rfl ?_)
 simp only [seval,EMI,w_none,w_eq,eInt,rmap_set,spD]
 refine alt_storeR rfl rfl (row_at q62.2) rfl rfl sz_101 rfl (Nat.le_of_ble_eq_true rfl) (regW.of ?_)
 simp only [seval,EMI,w_none,w_eq,sz_101,eInt,rmap_set,spD]
 refine regA.pureB (j := 13) (d := 7) (by kernel_rfl) rfl rfl (by kernel_rfl) rfl rfl (Nat.le_of_ble_eq_true rfl) ?_
 simp only [seval,EMI,w_none,w_eq,eInt,rmap_set,spD]
 refine ⟨rfl,?_⟩
 exact regA.nil (by kernel_rfl) ⟨rfl,rfl⟩
 refine regW.of ?_
 simp only [seval,EMI,w_none,w_eq,q60,eInt,rmap_set,spD]
 refine regA.pureB (j := 6) (d := 34) (by kernel_rfl) rfl rfl (by kernel_rfl) rfl rfl (Nat.le_of_ble_eq_true rfl) ?_
 simp only [seval,EMI,w_none,w_eq,und_104,und_101,eInt,rmap_set,spD]
 refine ⟨rfl,?_⟩
 refine regA.two (j := 0) (k := 10) (by kernel_rfl) rfl rfl ?_ ?_
 refine regW.of ?_
 simp only [seval,EMI,w_none,w_eq,eInt,rmap_set,spD]
 refine regA.two (j := 10) (k := 11) (by kernel_rfl) rfl rfl ?_ ?_
 refine regW.of ?_
 simp only [seval,EMI,w_none,w_eq,q61,eInt,rmap_set,spD]
 refine regA.one (j := 11) (by kernel_rfl) rfl (regW.alt 0 rfl ?_)
 simp only [seval,EMI,w_none,w_eq,eInt,rmap_set,spD]
 refine alt_indexR rfl rfl rfl und_49 sz_101 (row_lo q62.1) (row_hi q62.2 q62.1) (regW.of ?_)
 simp only [seval,EMI,w_none,w_eq,und_49,sz_101,eInt,rmap_set,spD]
 refine regA.one (j := 12) (by kernel_rfl) rfl (regW.alt 0 rfl ?_)
 simp only [seval,EMI,w_none,w_eq,eInt,rmap_set,spD]
 refine alt_storeR rfl rfl (row_at q62.2) rfl rfl sz_101 rfl (Nat.le_of_ble_eq_true rfl) (regW.of ?_)
 simp only [seval,EMI,w_none,w_eq,sz_101,eInt,rmap_set,spD]
 refine regA.pureB (j := 13) (d := 7) (by kernel_rfl) rfl rfl (by kernel_rfl) rfl rfl (Nat.le_of_ble_eq_true rfl) ?_
 simp only [seval,EMI,w_none,w_eq,eInt,rmap_set,spD]
 refine ⟨rfl,?_⟩
 exact regA.nil (by kernel_rfl) ⟨rfl,rfl⟩
 refine regW.alt 0 rfl ?_
 simp only [seval,EMI,w_none,w_eq,eInt,rmap_set,spD]
 refine alt_indexR rfl rfl rfl und_49 sz_101 (row_lo q62.1) (row_hi q62.2 q62.1) (regW.of ?_)
 simp only [seval,EMI,w_none,w_eq,und_49,sz_101,eInt,rmap_set,spD]
 refine regA.two (j := 10) (k := 12) (by kernel_rfl) rfl rfl ?_ ?_
 refine regW.of ?_
 simp only [seval,EMI,w_none,w_eq,q61,eInt,rmap_set,spD]
 refine regA.one (j := 12) (by kernel_rfl) rfl (regW.alt 0 rfl ?_)
 simp only [seval,EMI,w_none,w_eq,eInt,rmap_set,spD]
 refine alt_storeR rfl rfl (row_at q62.2) rfl rfl sz_101 rfl (Nat.le_of_ble_eq_true rfl) (regW.of ?_)
 simp only [seval,EMI,w_none,w_eq,sz_101,eInt,rmap_set,spD]
 refine regA.pureB (j := 13) (d := 7) (by kernel_rfl) rfl rfl (by kernel_rfl) rfl rfl (Nat.le_of_ble_eq_true rfl) ?_
 simp only [seval,EMI,w_none,w_eq,eInt,rmap_set,spD]
 refine ⟨rfl,?_⟩
 exact regA.nil (by kernel_rfl) ⟨rfl,rfl⟩
 refine regW.alt 0 rfl ?_
 simp only [seval,EMI,w_none,w_eq,eInt,rmap_set,spD]
 refine alt_storeR rfl rfl (row_at q62.2) rfl rfl sz_101 rfl (Nat.le_of_ble_eq_true rfl) (regW.of ?_)
 simp only [seval,EMI,w_none,w_eq,sz_101,eInt,rmap_set,spD]
 refine regA.one (j := 10) (by kernel_rfl) rfl (regW.of ?_)
 simp only [seval,EMI,w_none,w_eq,q61,eInt,rmap_set,spD]
 refine regA.pureB (j := 13) (d := 7) (by kernel_rfl) rfl rfl (by kernel_rfl) rfl rfl (Nat.le_of_ble_eq_true rfl) ?_
 simp only [seval,EMI,w_none,w_eq,eInt,rmap_set,spD]
 refine ⟨rfl,?_⟩
 exact regA.nil (by kernel_rfl) ⟨rfl,rfl⟩
 refine regW.of ?_
 simp only [seval,EMI,w_none,w_eq,q61,eInt,rmap_set,spD]
 refine regA.one (j := 0) (by kernel_rfl) rfl (regW.of ?_)
 simp only [seval,EMI,w_none,w_eq,eInt,rmap_set,spD]
 refine regA.one (j := 11) (by kernel_rfl) rfl (regW.alt 0 rfl ?_)
 simp only [seval,EMI,w_none,w_eq,eInt,rmap_set,spD]
 refine alt_indexR rfl rfl rfl und_49 sz_101 (row_lo q62.1) (row_hi q62.2 q62.1) (regW.of ?_)
 simp only [seval,EMI,w_none,w_eq,und_49,sz_101,eInt,rmap_set,spD]
 refine regA.one (j := 12) (by kernel_rfl) rfl (regW.alt 0 rfl ?_)
 simp only [seval,EMI,w_none,w_eq,eInt,rmap_set,spD]
 refine alt_storeR rfl rfl (row_at q62.2) rfl rfl sz_101 rfl (Nat.le_of_ble_eq_true rfl) (regW.of ?_)
 simp only [seval,EMI,w_none,w_eq,sz_101,eInt,rmap_set,spD]
 refine regA.pureB (j := 13) (d := 7) (by kernel_rfl) rfl rfl (by kernel_rfl) rfl rfl (Nat.le_of_ble_eq_true rfl) ?_
 simp only [seval,EMI,w_none,w_eq,eInt,rmap_set,spD]
 refine ⟨rfl,?_⟩
 exact regA.nil (by kernel_rfl) ⟨rfl,rfl⟩
 refine regW.of ?_
 simp only [seval,EMI,w_none,w_eq,q61,eInt,rmap_set,spD]
 refine regA.two (j := 0) (k := 5) (by kernel_rfl) rfl rfl ?_ ?_
 refine regW.of ?_
 simp only [seval,EMI,w_none,w_eq,eInt,rmap_set,spD]
 refine regA.one (j := 5) (by kernel_rfl) rfl (regW.of ?_)
 simp only [seval,EMI,w_none,w_eq,q60,eInt,rmap_set,spD]
 refine regA.pureB (j := 6) (d := 34) (by kernel_rfl) rfl rfl (by kernel_rfl) rfl rfl (Nat.le_of_ble_eq_true rfl) ?_
 simp only [seval,EMI,w_none,w_eq,und_104,und_101,eInt,rmap_set,spD]
 refine ⟨rfl,?_⟩
 refine regA.one (j := 11) (by kernel_rfl) rfl (regW.alt 0 rfl ?_)
 simp only [seval,EMI,w_none,w_eq,eInt,rmap_set,spD]
 refine alt_indexR rfl rfl rfl und_49 sz_101 (row_lo q62.1) (row_hi q62.2 q62.1) (regW.of ?_)
 simp only [seval,EMI,w_none,w_eq,und_49,sz_101,eInt,rmap_set,spD]
 refine regA.one (j := 12) (by kernel_rfl) rfl (regW.alt 0 rfl ?_)
 simp only [seval,EMI,w_none,w_eq,eInt,rmap_set,spD]
 refine alt_storeR rfl rfl (row_at q62.2) rfl rfl sz_101 rfl (Nat.le_of_ble_eq_true rfl) (regW.of ?_)
 simp only [seval,EMI,w_none,w_eq,sz_101,eInt,rmap_set,spD]
 refine regA.pureB (j := 13) (d := 7) (by kernel_rfl) rfl rfl (by kernel_rfl) rfl rfl (Nat.le_of_ble_eq_true rfl) ?_
 simp only [seval,EMI,w_none,w_eq,eInt,rmap_set,spD]
 refine ⟨rfl,?_⟩
 exact regA.nil (by kernel_rfl) ⟨rfl,rfl⟩
 refine regW.of ?_
 simp only [seval,EMI,w_none,w_eq,q60,eInt,rmap_set,spD]
 refine regA.pureB (j := 6) (d := 34) (by kernel_rfl) rfl rfl (by kernel_rfl) rfl rfl (Nat.le_of_ble_eq_true rfl) ?_
 simp only [seval,EMI,w_none,w_eq,und_104,und_101,eInt,rmap_set,spD]
 refine ⟨rfl,?_⟩
 refine regA.one (j := 0) (by kernel_rfl) rfl (regW.of ?_)
 simp only [seval,EMI,w_none,w_eq,eInt,rmap_set,spD]
 refine regA.one (j := 11) (by kernel_rfl) rfl (regW.alt 0 rfl ?_)
 simp only [seval,EMI,w_none,w_eq,eInt,rmap_set,spD]
 refine alt_indexR rfl rfl rfl und_49 sz_101 (row_lo q62.1) (row_hi q62.2 q62.1) (regW.of ?_)
 simp only [seval,EMI,w_none,w_eq,und_49,sz_101,eInt,rmap_set,spD]
 refine regA.one (j := 12) (by kernel_rfl) rfl (regW.alt 0 rfl ?_)
 simp only [seval,EMI,w_none,w_eq,eInt,rmap_set,spD]
 refine alt_storeR rfl rfl (row_at q62.2) rfl rfl sz_101 rfl (Nat.le_of_ble_eq_true rfl) (regW.of ?_)
 simp only [seval,EMI,w_none,w_eq,sz_101,eInt,rmap_set,spD]
 refine regA.pureB (j := 13) (d := 7) (by kernel_rfl) rfl rfl (by kernel_rfl) rfl rfl (Nat.le_of_ble_eq_true rfl) ?_
 simp only [seval,EMI,w_none,w_eq,eInt,rmap_set,spD]
 refine ⟨rfl,?_⟩
 exact regA.nil (by kernel_rfl) ⟨rfl,rfl⟩
 refine mU e (.region fun e h=>?_) h
 simp only [seval,EMI,eInt,rmap_set,spD]
 cases h
 simp only [seval,FMI,eInt,rmap_set,spD,Tryz.results141]
 refine .exit fun e h=>?_
 cases h
 simp only [seval,FMI,eInt,rmap_set,spD,Tryz.results141]
 intro v2
 refine Mir.toK (.sR fun e h=>?_)
 simp only [seval,EMI,und_104,und_101,und_49,sz_101,zero_101,(oL 1),eInt,rmap_set,spD]
 refine mU e (.frz 0 rfl ?_) h
 simp only [seval,us_0,us_s,xCA,xNA,and_self,and_true,true_and,and_false,false_and,SZ]
 refine .ret fun e h=>?_
 cases h
 simp only [seval,FMI,eInt,rmap_set,spD,Tryz.results141]
theorem it_times_specZ {a0 : (List Int)} {a1 : (List Int)} {y : (List Int)} (h : it_times a0 a1 = some y) : SpecZ gP 97 [.d (.list (List.map (eInt .u32) a0)), .d (.list (List.map (eInt .u32) a1))] 101 (List.map (eInt .u32) y) (fun x => x) := by
 refine specZ_mir Tryz.func97 rfl (by kernel_rfl) (by kernel_rfl) (fun y : (List Int) => List.map (eInt .u32) y) (fun y : (List Int) => fun x => x) (ctx_id) (sc_map (fun _ => rfl) _) ?_ h
 unfold it_times
 simp only [List.replicate, List.length, nS, nA, Tryz.ntmps97, SV]
 refine .sR fun e h=>?_
 simp only [seval,EMI,eInt,rmap_set,spD]
 refine mU e (.seqK (.guard fun q1=>.guard fun q2=>.regionW fun e h=>regW.alt 5 rfl ?_)) h
 simp only [seval,EMI,w_none,w_eq,und_49,eInt,rmap_set,spD]
 refine alt_makeM (en := (eInt .u32)) (z := 0) rfl rfl app_49 zero_101 rfl rfl (of_decide_eq_true q1) q2 (regW.of ?_)
 simp only [seval,EMI,w_none,w_eq,eInt,rmap_set,spD]
 refine mU e (.seqK (.sR fun e h=>?_)) h
 simp only [seval,EMI,und_49,eInt,rmap_set,spD]
 refine mU e (Mir.joinO (fun v1 : (List Int)=>([U,U,U,U,U,.gr 0 0] ++ us 62)) (fun v1=>⟨[[.rowc 101 0 (List.map (eInt .u32) v1)]],[]⟩) (fun _=>rfl) ?_ ?_) h
 refine .block (.guard fun q3=>Mir.range (fun (i1 : Nat) (v2 : (List Int))=>([U,.d (.list (List.map (eInt .u32) a1)),U,U,U,.gr 0 0,U,U,U,U,U,U,U,U,U,U,U,U,.d (.list (List.map (eInt .u32) a0)),.d (.int .i64 (a0.length : Int)),.d (.int .i64 (i1 : Int))] ++ us 47)) (fun i1 v2=>⟨[[.rowc 101 0 (List.map (eInt .u32) v2)]],[]⟩) q3 (fun _ _=>rfl) (by simp only [seval,FMI,eInt,rmap_set,spD,zNI]) (by simp only [seval,FMI,eInt,rmap_set,spD,zNI]) ?_ ?_)
 intro i1 e1 v2 q4
 refine .sR fun e h=>?_
 simp only [seval,EMI,q4,eInt,rmap_set,spD]
 refine mU e (.seqK (.condT rfl (.skip (Mir.toK (.seqK (Mir.joinO (fun v3 : (List Int)=>([U,.d (.list (List.map (eInt .u32) a1)),U,U,U,.gr 0 0,U,U,U,U,U,U,U,U,U,U,U,U,.d (.list (List.map (eInt .u32) a0)),.d (.int .i64 (a0.length : Int)),.d (.int .i64 (i1 : Int))] ++ us 47)) (fun v3=>⟨[[.rowc 101 0 (List.map (eInt .u32) v3)]],[]⟩) (fun _=>rfl) ?_ ?_)))))) h
 refine .block (.sR fun e h=>?_)
 simp only [seval,EMI,und_49,sz_101,q4,Int.toNat_natCast,ag_101,eInt,rmap_set,spD]
 refine mU e (.sR fun e h=>?_) h
 simp only [seval,EMI,eInt,rmap_set,spD]
 refine mU e (.seqK (.sR fun e h=>?_)) h
 simp only [seval,EMI,und_49,eInt,rmap_set,spD]
 refine mU e (Mir.joinO (fun v4 : Int × (List Int)=>([U,.d (.list (List.map (eInt .u32) a1)),U,U,U,.gr 0 0,.d (.int .i64 (i1 : Int)),U,.d (.int .u64 v4.1),U,U,U,U,U,U,U,U,U,.d (.list (List.map (eInt .u32) a0)),.d (.int .i64 (a0.length : Int)),.d (.int .i64 (i1 : Int))] ++ us 47)) (fun v4=>⟨[[.rowc 101 0 (List.map (eInt .u32) v4.2)]],[]⟩) (fun _=>rfl) ?_ ?_) h
 refine .block (.guard fun q5=>Mir.range (fun (i2 : Nat) (v5 : Int × (List Int))=>([U,.d (.list (List.map (eInt .u32) a1)),U,U,U,.gr 0 0,.d (.int .i64 (i1 : Int)),.d (.int .u32 e1),.d (.int .u64 v5.1),U,U,U,U,U,U,U,U,U,.d (.list (List.map (eInt .u32) a0)),.d (.int .i64 (a0.length : Int)),.d (.int .i64 (i1 : Int)),U,U,U,U,.d (.list (List.map (eInt .u32) a1)),.d (.int .i64 (a1.length : Int)),.d (.int .i64 (i2 : Int))] ++ us 40)) (fun i2 v5=>⟨[[.rowc 101 0 (List.map (eInt .u32) v5.2)]],[]⟩) q5 (fun _ _=>rfl) (by simp only [seval,FMI,eInt,rmap_set,spD,zNI]) (by simp only [seval,FMI,eInt,rmap_set,spD,zNI]) ?_ ?_)
 intro i2 e2 v5 q6
 refine .sR fun e h=>?_
 simp only [seval,EMI,q6,eInt,rmap_set,spD]
 refine mU e (.seqK (.condT rfl (.skip (Mir.toK (.seqK (.block (.sR fun e h=>?_))))))) h
 simp only [seval,EMI,und_49,sz_101,q6,Int.toNat_natCast,ag_101,eInt,rmap_set,spD]
 refine mU e (.seqK (.bind fun e3 q7=>?_)) h
 replace q7 := gt_ok q7
 refine .regionW fun e h=>regW.alt 4 rfl ?_
 simp only [seval,EMI,w_none,w_eq,eInt,rmap_set,spD]
 refine alt_indexR rfl rfl rfl und_49 sz_101 (row_lo q7.1) (row_hi q7.2 q7.1) (regW.alt 0 rfl ?_)
 simp only [seval,EMI,w_none,w_eq,und_49,sz_101,eInt,rmap_set,spD]
 refine alt_loadR rfl rfl (row_at q7.2) (by simp only [↓reduceIte,nA,nL,pt_eq,ag_101,sz_101,dc_cons,dc_nil,SV,eInt] <;> rfl) (regW.of ?_)
 simp only [seval,EMI,w_none,w_eq,ag_101,sz_101,und_101,und_104,eInt,rmap_set,spD]
 refine mU e (.bind fun e4 q8=>?_) h
 replace q8 := gt_ok q8
 refine .regionW fun e h=>regW.alt 9 rfl ?_
 simp only [seval,EMI,w_none,w_eq,und_104,und_101,eInt,rmap_set,spD]
 refine alt_indexR rfl rfl rfl und_49 sz_101 (row_lo q8.1) (row_hi q8.2 q8.1) (regW.alt 0 rfl ?_)
 simp only [seval,EMI,w_none,w_eq,und_49,sz_101,eInt,rmap_set,spD]
 refine alt_storeR rfl rfl (row_at q8.2) rfl rfl sz_101 rfl (Nat.le_of_ble_eq_true rfl) (regW.of ?_)
 simp only [seval,EMI,w_none,w_eq,sz_101,eInt,rmap_set,spD]
 refine mU e (.region fun e h=>?_) h
 simp only [seval,EMI,eInt,rmap_set,spD]
 cases h
 simp only [seval,FMI,eInt,rmap_set,spD,Tryz.results97,q6]
 intro v5 q9
 refine .sR fun e h=>?_
 simp only [seval,EMI,q9,eInt,rmap_set,spD]
 refine mU e (.seqK (.condF rfl (.exit fun e h=>?_))) h
 cases h
 simp only [seval,FMI,eInt,rmap_set,spD,Tryz.results97]
 intro v4
 refine Mir.toK (.bind fun e5 q10=>?_)
 replace q10 := gt_ok q10
 refine .regionW fun e h=>regW.alt 7 rfl ?_
 simp only [seval,EMI,w_none,w_eq,und_49,und_104,und_101,eInt,rmap_set,spD]
 refine alt_indexR rfl rfl rfl und_49 sz_101 (row_lo q10.1) (row_hi q10.2 q10.1) (regW.alt 0 rfl ?_)
 simp only [seval,EMI,w_none,w_eq,und_49,sz_101,eInt,rmap_set,spD]
 refine alt_storeR rfl rfl (row_at q10.2) rfl rfl sz_101 rfl (Nat.le_of_ble_eq_true rfl) (regW.of ?_)
 simp only [seval,EMI,w_none,w_eq,sz_101,eInt,rmap_set,spD]
 cases h
 simp only [seval,FMI,eInt,rmap_set,spD,Tryz.results97]
 intro v3
 refine Mir.toK (.region fun e h=>?_)
 simp only [seval,EMI,eInt,rmap_set,spD]
 cases h
 simp only [seval,FMI,eInt,rmap_set,spD,Tryz.results97,q4]
 intro v2 q11
 refine .sR fun e h=>?_
 simp only [seval,EMI,q11,eInt,rmap_set,spD]
 refine mU e (.seqK (.condF rfl (.exit fun e h=>?_))) h
 cases h
 simp only [seval,FMI,eInt,rmap_set,spD,Tryz.results97]
 intro v1
 refine Mir.toK (.sR fun e h=>?_)
 simp only [seval,EMI,eInt,rmap_set,spD]
 refine mU e (.ret fun e h=>?_) h
 cases h
 simp only [seval,FMI,eInt,rmap_set,spD,Tryz.results97,fz_r,fz_n]
 exact zr_gr 0 0 rfl rfl
def it_divide (a0 : (List Int)) (a1 : (List Int)) : Option ((List Int) × (List Int)) := bindO (it_trim a0) fun (y1 : (List Int)) => bindO (it_trim a1) fun (y2 : (List Int)) => if ((y2.length : Int) == 1) = true then bindO (gt y2 0) fun (e1 : Int) => bindO (it_byWord y1 e1) fun (y3 : (List Int) × (List Int)) => some (y3.1, y3.2) else bindO (it_compare y1 y2) fun (y4 : Int) => if (decide (y4 < 0)) = true then guardO (okLen (y1.length)) ( some ([], y1)) else bindO (gt y2 (IntKind.i64.wrap ((y2.length : Int) - 1))) fun (e2 : Int) => guardO (!((IntKind.u64.wrap ((IntKind.u64.wrap e2) + 1)) == 0)) ( bindO (it_times y1 [IntKind.u32.wrap (IntKind.u64.wrap (Int.tdiv 1000000000 (IntKind.u64.wrap ((IntKind.u64.wrap e2) + 1))))]) fun (y5 : (List Int)) => guardO (okLen (y5.length + 1)) ( bindO (it_times y2 [IntKind.u32.wrap (IntKind.u64.wrap (Int.tdiv 1000000000 (IntKind.u64.wrap ((IntKind.u64.wrap e2) + 1))))]) fun (y6 : (List Int)) => bindO (it_trim y6) fun (y7 : (List Int)) => guardO (decide ((0 : Int) ≤ (IntKind.i64.wrap (((y5.length + 1 : Nat) : Int) - (y2.length : Int))))) ( guardO (okLen (Int.toNat (IntKind.i64.wrap (((y5.length + 1 : Nat) : Int) - (y2.length : Int))))) ( bindO (loopX (fun (v1 : Int × (List Int) × (List Int)) => if (decide (v1.1 ≥ 0)) = true then bindO (bindO (gt v1.2.1 (IntKind.i64.wrap (v1.1 + (y2.length : Int)))) fun (e3 : Int) => bindO (gt v1.2.1 (IntKind.i64.wrap ((IntKind.i64.wrap (v1.1 + (y2.length : Int))) - 1))) fun (e4 : Int) => bindO (gt y7 (IntKind.i64.wrap ((y2.length : Int) - 1))) fun (e5 : Int) => guardO (!((IntKind.u64.wrap e5) == 0)) ( guardO (!((IntKind.u64.wrap e5) == 0)) ( bindO (loopX (fun (v2 : Int × Int) => bindO (if (decide (v2.1 ≥ 1000000000)) = true then some true else bindO (gt y7 (IntKind.i64.wrap ((y2.length : Int) - 2))) fun (e6 : Int) => bindO (gt v1.2.1 (IntKind.i64.wrap ((IntKind.i64.wrap (v1.1 + (y2.length : Int))) - 2))) fun (e7 : Int) => some (decide ((IntKind.u64.wrap (v2.1 * (IntKind.u64.wrap e6))) > (IntKind.u64.wrap ((IntKind.u64.wrap (v2.2 * 1000000000)) + (IntKind.u64.wrap e7)))))) fun (v3 : Bool) => if v3 = true then if (decide ((IntKind.u64.wrap (v2.2 + (IntKind.u64.wrap e5))) ≥ 1000000000)) = true then some (.ret (IntKind.u64.wrap (v2.1 - 1))) else some (.go (IntKind.u64.wrap (v2.1 - 1), IntKind.u64.wrap (v2.2 + (IntKind.u64.wrap e5)))) else some (.ret v2.1)) fuel (IntKind.u64.wrap (Int.tdiv (IntKind.u64.wrap ((IntKind.u64.wrap ((IntKind.u64.wrap e3) * 1000000000)) + (IntKind.u64.wrap e4))) (IntKind.u64.wrap e5)), Int.tmod (IntKind.u64.wrap ((IntKind.u64.wrap ((IntKind.u64.wrap e3) * 1000000000)) + (IntKind.u64.wrap e4))) (IntKind.u64.wrap e5))) fun (v4 : Int) => guardO (decide ((0 : Int) ≤ v1.1 ∧ v1.1 ≤ (IntKind.i64.wrap ((IntKind.i64.wrap (v1.1 + (y2.length : Int))) + 1)) ∧ (IntKind.i64.wrap ((IntKind.i64.wrap (v1.1 + (y2.length : Int))) + 1)) ≤ ((v1.2.1.length : Nat) : Int))) ( bindO (bindO (loopX (fun (v5 : Int × Int × Int × (List Int)) => if (decide (v5.2.2.1 < (((Int.toNat (IntKind.i64.wrap ((IntKind.i64.wrap (v1.1 + (y2.length : Int))) + 1))) - (Int.toNat v1.1) : Nat) : Int))) = true then bindO (if (decide (v5.2.2.1 < (y7.length : Int))) = true then bindO (gt y7 v5.2.2.1) fun (e8 : Int) => some (IntKind.u64.wrap (v5.1 + (IntKind.u64.wrap ((IntKind.u64.wrap e8) * v4)))) else some v5.1) fun (v6 : Int) => guardO (decide (0 ≤ v5.2.2.1 ∧ v5.2.2.1 < (((Int.toNat (IntKind.i64.wrap ((IntKind.i64.wrap (v1.1 + (y2.length : Int))) + 1))) - (Int.toNat v1.1) : Nat) : Int))) ( bindO (gt v5.2.2.2 (((Int.toNat v1.1) + Int.toNat v5.2.2.1 : Nat) : Int)) fun (e9 : Int) => bindO (if (decide ((IntKind.u64.wrap e9) < (IntKind.u64.wrap ((Int.tmod v6 1000000000) + v5.2.1)))) = true then some (1, IntKind.u64.wrap ((IntKind.u64.wrap e9) + 1000000000)) else some (0, IntKind.u64.wrap e9)) fun (v7 : Int × Int) => guardO (decide (0 ≤ v5.2.2.1 ∧ v5.2.2.1 < (((Int.toNat (IntKind.i64.wrap ((IntKind.i64.wrap (v1.1 + (y2.length : Int))) + 1))) - (Int.toNat v1.1) : Nat) : Int))) ( bindO (gt v5.2.2.2 (((Int.toNat v1.1) + Int.toNat v5.2.2.1 : Nat) : Int)) fun (e10 : Int) => some (.go (IntKind.u64.wrap (Int.tdiv v6 1000000000), v7.1, IntKind.i64.wrap (v5.2.2.1 + 1), v5.2.2.2.set (((Int.toNat v1.1) + Int.toNat v5.2.2.1)) (IntKind.u32.wrap (IntKind.u64.wrap (v7.2 - (IntKind.u64.wrap ((Int.tmod v6 1000000000) + v5.2.1))))))))) else some (.ret (v5.1, v5.2.1, v5.2.2.2))) fuel (0, 0, 0, v1.2.1)) fun (v8 : Int × Int × (List Int)) => some ((decide (v8.2.1 > 0)) || (decide (v8.1 > 0)), v8.2.2)) fun (v9 : Bool × (List Int)) => bindO (if v9.1 = true then guardO (decide ((0 : Int) ≤ v1.1 ∧ v1.1 ≤ (IntKind.i64.wrap ((IntKind.i64.wrap (v1.1 + (y2.length : Int))) + 1)) ∧ (IntKind.i64.wrap ((IntKind.i64.wrap (v1.1 + (y2.length : Int))) + 1)) ≤ ((v9.2.length : Nat) : Int))) ( bindO (loopX (fun (v10 : Int × Int × (List Int)) => if (decide (v10.2.1 < (((Int.toNat (IntKind.i64.wrap ((IntKind.i64.wrap (v1.1 + (y2.length : Int))) + 1))) - (Int.toNat v1.1) : Nat) : Int))) = true then guardO (decide (0 ≤ v10.2.1 ∧ v10.2.1 < (((Int.toNat (IntKind.i64.wrap ((IntKind.i64.wrap (v1.1 + (y2.length : Int))) + 1))) - (Int.toNat v1.1) : Nat) : Int))) ( bindO (gt v10.2.2 (((Int.toNat v1.1) + Int.toNat v10.2.1 : Nat) : Int)) fun (e11 : Int) => bindO (if (decide (v10.2.1 < (y7.length : Int))) = true then bindO (gt y7 v10.2.1) fun (e12 : Int) => some (IntKind.u32.wrap ((IntKind.u32.wrap (e11 + v10.1)) + e12)) else some (IntKind.u32.wrap (e11 + v10.1))) fun (v11 : Int) => bindO (if (decide (v11 ≥ 1000000000)) = true then some (1, IntKind.u32.wrap (v11 - 1000000000)) else some (0, v11)) fun (v12 : Int × Int) => guardO (decide (0 ≤ v10.2.1 ∧ v10.2.1 < (((Int.toNat (IntKind.i64.wrap ((IntKind.i64.wrap (v1.1 + (y2.length : Int))) + 1))) - (Int.toNat v1.1) : Nat) : Int))) ( bindO (gt v10.2.2 (((Int.toNat v1.1) + Int.toNat v10.2.1 : Nat) : Int)) fun (e13 : Int) => some (.go (v12.1, IntKind.i64.wrap (v10.2.1 + 1), v10.2.2.set (((Int.toNat v1.1) + Int.toNat v10.2.1)) v12.2)))) else some (.ret v10.2.2)) fuel (0, 0, v9.2)) fun (v13 : (List Int)) => some (IntKind.u64.wrap (v4 - 1), v13)) else some (v4, v9.2)) fun (v14 : Int × (List Int)) => bindO (gt v1.2.2 v1.1) fun (e14 : Int) => some (v14.2, v1.2.2.set (Int.toNat v1.1) (IntKind.u32.wrap v14.1)))))) fun (v15 : (List Int) × (List Int)) => some (.go (IntKind.i64.wrap (v1.1 - 1), v15.1, v15.2)) else some (.ret (v1.2.1, v1.2.2))) fuel (IntKind.i64.wrap ((IntKind.i64.wrap (((y5.length + 1 : Nat) : Int) - (y2.length : Int))) - 1), y5 ++ [0], List.replicate (Int.toNat (IntKind.i64.wrap (((y5.length + 1 : Nat) : Int) - (y2.length : Int)))) (0 : Int))) fun (v16 : (List Int) × (List Int)) => bindO (cutT v16.1 (y2.length : Int)) fun (s1 : (List Int)) => bindO (it_trim s1) fun (y8 : (List Int)) => bindO (it_byWord y8 (IntKind.u32.wrap (IntKind.u64.wrap (Int.tdiv 1000000000 (IntKind.u64.wrap ((IntKind.u64.wrap e2) + 1)))))) fun (y9 : (List Int) × (List Int)) => some (v16.2, y9.1)))))
theorem it_divide_spec {a0 : (List Int)} {a1 : (List Int)} {y : (List Int) × (List Int)} (h : it_divide a0 a1 = some y) : Spec gP 125 [.d (.list (List.map (eInt .u32) a0)), .d (.list (List.map (eInt .u32) a1))] (.tuple [.d (.list (List.map (eInt .u32) y.1)), .d (.list (List.map (eInt .u32) y.2))]) := by
 refine spec_mir Tryz.func125 rfl (by kernel_rfl) (by kernel_rfl) (fun y : (List Int) × (List Int) => .tuple [.d (.list (List.map (eInt .u32) y.1)), .d (.list (List.map (eInt .u32) y.2))]) ?_ h
 unfold it_divide
 simp only [List.replicate, List.length, nS, nA, Tryz.ntmps125, SV]
 refine .sR fun e h=>?_
 simp only [seval,EMI,eInt,rmap_set,spD]
 refine mU e (.seqK (.bind fun y1 hy1=>.bind fun y2 hy2=>.region fun e h=>?_)) h
 simp only [seval,EMI,eInt,rmap_set,spD]
 refine SpecS.by (it_trim_spec hy1) (by simp only [seval,FMI,eInt,rmap_set,spD]) ?_
 simp only [seval,EMI,eInt,rmap_set,spD]
 refine SpecS.by (it_trim_spec hy2) (by simp only [seval,FMI,eInt,rmap_set,spD]) ?_
 simp only [seval,EMI,eInt,rmap_set,spD]
 refine mU e (.seqK (.sR fun e h=>?_)) h
 simp only [seval,EMI,und_49,eInt,rmap_set,spD]
 refine mU e (.cond rfl (fun hb6=>?_) (fun hb6=>?_)) h
 refine .seqK (.bind fun e1 q7=>?_)
 replace q7 := gt_ok q7
 simp only [Int.reduceToNat,Int.reduceLT,Nat.sub_zero,dp0] at q7
 refine .bind fun y3 hy8=>.region fun e h=>?_
 simp only [seval,EMI,und_49,sz_101,q7,ag_101,eInt]
 refine SpecS.by (it_byWord_spec hy8) (by simp only [seval,FMI,eInt]) ?_
 simp only [seval,EMI,eInt]
 refine mU e (.ret fun e h=>?_) h
 cases h
 simp only [seval,FMI,eInt,Tryz.results125]
 refine .skip (Mir.toK (.seqK (.seqK (.bind fun y4 hy9=>.region fun e h=>?_))))
 simp only [seval,EMI,eInt,rmap_set,spD]
 refine SpecS.by (it_compare_spec hy9) (by simp only [seval,FMI,eInt,rmap_set,spD]) ?_
 simp only [seval,EMI,eInt,rmap_set,spD]
 refine mU e (.cond rfl (fun hb12=>?_) (fun hb12=>?_)) h
 refine .seqK (.guard fun q13=>.region fun e h=>?_)
 simp only [seval,EMI,app_49,al_eInt,q13,eInt]
 refine mU e (.ret fun e h=>?_) h
 cases h
 simp only [seval,FMI,eInt,Tryz.results125]
 refine .skip (Mir.toK (.sR fun e h=>?_))
 simp only [seval,EMI,und_49,eInt,rmap_set,spD]
 refine mU e (.seqK (.bind fun e2 q14=>?_)) h
 replace q14 := gt_ok q14
 refine .guard fun q15=>?_
 replace q15 := ne_of q15
 refine .region fun e h=>?_
 simp only [seval,EMI,und_49,sz_101,q14,ag_101,und_101,und_104,q15,eInt,rmap_set,spD]
 refine mU e (.seqK (.bind fun y5 hy16=>.guard fun q17=>.regionW fun e h=>regW.alt 5 rfl ?_)) h
 simp only [seval,EMI,w_none,w_eq,und_49,sz_101,zero_101,(oL 1),eInt,rmap_set,spD]
 refine SpecZ.toS (it_times_specZ hy16) (by simp only [seval,FMI,eInt,rmap_set,spD]) ?_
 simp only [seval,EMI,w_none,w_eq,und_49,sz_101,zero_101,(oL 1),eInt,rmap_set,spD]
 refine alt_appR (e' := 0) (ys := List.map (eInt .u32) [0]) rfl (by simp only [seval,EMI,eInt,rmap_set,spD]) rfl app_49 al_eInt (Nat.zero_lt_succ _) (ok2 q17 (by simp only [lm]) rfl) (regW.of ?_)
 simp only [seval,EMI,w_none,w_eq,app_49,al_eInt,eInt,rmap_set,spD]
 refine mU e (.seqK (.bind fun y6 hy18=>.bind fun y7 hy19=>.region fun e h=>?_)) h
 simp only [seval,EMI,und_49,sz_101,zero_101,(oL 1),eInt,rmap_set,spD]
 refine SpecS.by (it_times_spec hy18) (by simp only [seval,FMI,eInt,rmap_set,spD]) ?_
 simp only [seval,EMI,eInt,rmap_set,spD]
 refine SpecS.by (it_trim_spec hy19) (by simp only [seval,FMI,eInt,rmap_set,spD]) ?_
 simp only [seval,EMI,eInt,rmap_set,spD]
 refine mU e (.seqK (.guard fun q20=>.guard fun q21=>.regionW fun e h=>regW.alt 1 rfl ?_)) h
 simp only [seval,EMI,w_none,w_eq,eInt,rmap_set,spD]
 refine alt_lenR rfl rfl und_49 (regW.alt 2 rfl ?_)
 simp only [seval,EMI,w_none,w_eq,und_49,xLA,eInt,rmap_set,spD]
 refine alt_makeM (en := (eInt .u32)) (z := 0) rfl rfl app_49 zero_101 rfl rfl (of_decide_eq_true q20) q21 (regW.of ?_)
 simp only [seval,EMI,w_none,w_eq,eInt,rmap_set,spD]
 refine mU e (.seqK (.seqK (.regionW fun e h=>regW.alt 1 rfl ?_))) h
 simp only [seval,EMI,w_none,w_eq,eInt,rmap_set,spD]
 refine alt_lenR rfl rfl und_49 (regW.of ?_)
 simp only [seval,EMI,w_none,w_eq,und_49,xLA,eInt,rmap_set,spD]
 refine mU e (Mir.joinO (fun v16 : (List Int) × (List Int)=>([U,U,U,U,U,U,.d (.int .i64 (y2.length : Int)),.d (.int .u32 (IntKind.u32.wrap (IntKind.u64.wrap (Int.tdiv 1000000000 (IntKind.u64.wrap ((IntKind.u64.wrap e2) + 1)))))),.gr 0 1,U,.gr 1 0] ++ us 168)) (fun v16=>⟨[[.rowc 101 1 (List.map (eInt .u32) v16.1)],[.rowc 101 0 (List.map (eInt .u32) v16.2)]],[]⟩) (fun _=>rfl) ?_ ?_) h
 refine .block (Mir.loop (fun v1 : Int × (List Int) × (List Int)=>([U,U,U,U,U,U,.d (.int .i64 (y2.length : Int)),.d (.int .u32 (IntKind.u32.wrap (IntKind.u64.wrap (Int.tdiv 1000000000 (IntKind.u64.wrap ((IntKind.u64.wrap e2) + 1)))))),.gr 0 1,.d (.list (List.map (eInt .u32) y7)),.gr 1 0,.d (.int .i64 v1.1)] ++ us 167)) (fun v1=>⟨[[.rowc 101 1 (List.map (eInt .u32) v1.2.1)],[.rowc 101 0 (List.map (eInt .u32) v1.2.2)]],[]⟩) (fun _=>rfl) (by simp only [seval,FMI,eInt,rmap_set,spD]) (by simp only [seval,FMI,eInt,rmap_set,spD]) fun v1=>.seqK (.sR fun e h=>?_))
 simp only [seval,EMI,eInt,rmap_set,spD]
 refine mU e (.cond rfl (fun h1=>?_) (fun h1=>?_)) h
 refine .skip (Mir.toK (.seqK (Mir.joinO (fun v15 : (List Int) × (List Int)=>([U,U,U,U,U,U,.d (.int .i64 (y2.length : Int)),.d (.int .u32 (IntKind.u32.wrap (IntKind.u64.wrap (Int.tdiv 1000000000 (IntKind.u64.wrap ((IntKind.u64.wrap e2) + 1)))))),.gr 0 1,.d (.list (List.map (eInt .u32) y7)),.gr 1 0,.d (.int .i64 v1.1)] ++ us 167)) (fun v15=>⟨[[.rowc 101 1 (List.map (eInt .u32) v15.1)],[.rowc 101 0 (List.map (eInt .u32) v15.2)]],[]⟩) (fun _=>rfl) ?_ ?_)))
 refine .block (.seqK (.bind fun e3 q1=>?_))
 replace q1 := gt_ok q1
 refine .bind fun e4 q2=>?_
 replace q2 := gt_ok q2
 refine Mir.regionS (by kernel_rfl) fun e h=>stW.alt 4 rfl (by kernel_rfl) ?_
 simp only [seval,EMI,w_none,w_eq,eInt,rmap_set,spD]
 refine st_indexR rfl rfl rfl und_49 sz_101 (row_lo q1.1) (row_hi q1.2 q1.1) (stW.alt 0 rfl (by kernel_rfl) ?_)
 simp only [seval,EMI,w_none,w_eq,und_49,sz_101,eInt,rmap_set,spD]
 refine st_loadR rfl rfl (row_at q1.2) (by simp only [↓reduceIte,nA,nL,pt_eq,ag_101,sz_101,dc_cons,dc_nil,SV,eInt] <;> rfl) (stW.alt 7 rfl (by kernel_rfl) ?_)
 simp only [seval,EMI,w_none,w_eq,ag_101,sz_101,und_101,und_104,eInt,rmap_set,spD]
 refine st_indexR rfl rfl rfl und_49 sz_101 (row_lo q2.1) (row_hi q2.2 q2.1) (stW.alt 0 rfl (by kernel_rfl) ?_)
 simp only [seval,EMI,w_none,w_eq,und_49,sz_101,eInt,rmap_set,spD]
 refine st_loadR rfl rfl (row_at q2.2) (by simp only [↓reduceIte,nA,nL,pt_eq,ag_101,sz_101,dc_cons,dc_nil,SV,eInt] <;> rfl) (stW.of (by kernel_rfl) ?_)
 simp only [seval,EMI,w_none,w_eq,ag_101,sz_101,und_101,und_104,eInt,rmap_set,spD]
 refine mU e (.seqK (.bind fun e5 q3=>?_)) h
 replace q3 := gt_ok q3
 refine .guard fun q4=>?_
 replace q4 := ne_of q4
 refine .guard fun q5=>?_
 replace q5 := ne_of q5
 refine .regionD [] (by kernel_rfl) fun e h=>?_
 simp only [seval,EMI,SB,und_49,sz_101,q3,ag_101,und_101,und_104,q4,q5,eInt,rmap_set,spD]
 refine mU e (.seqK (Mir.joinO (fun v4 : Int=>([U,U,U,U,U,U,.d (.int .i64 (y2.length : Int)),.d (.int .u32 (IntKind.u32.wrap (IntKind.u64.wrap (Int.tdiv 1000000000 (IntKind.u64.wrap ((IntKind.u64.wrap e2) + 1)))))),.gr 0 1,.d (.list (List.map (eInt .u32) y7)),.gr 1 0,.d (.int .i64 v1.1),U,.d (.int .u64 v4)] ++ us 165)) (fun v4=>⟨[[.rowc 101 1 (List.map (eInt .u32) v1.2.1)],[.rowc 101 0 (List.map (eInt .u32) v1.2.2)]],[]⟩) (fun _=>rfl) ?_ ?_)) h
 refine .block (Mir.loop (fun v2 : Int × Int=>([U,U,U,U,U,U,.d (.int .i64 (y2.length : Int)),.d (.int .u32 (IntKind.u32.wrap (IntKind.u64.wrap (Int.tdiv 1000000000 (IntKind.u64.wrap ((IntKind.u64.wrap e2) + 1)))))),.gr 0 1,.d (.list (List.map (eInt .u32) y7)),.gr 1 0,.d (.int .i64 v1.1),U,.d (.int .u64 v2.1),.d (.int .u64 v2.2)] ++ us 164)) (fun v2=>⟨[[.rowc 101 1 (List.map (eInt .u32) v1.2.1)],[.rowc 101 0 (List.map (eInt .u32) v1.2.2)]],[]⟩) (fun _=>rfl) (by simp only [seval,FMI,eInt,rmap_set,spD]) (by simp only [seval,FMI,eInt,rmap_set,spD]) fun v2=>.seqK (.seqK (Mir.joinO (fun v3 : Bool=>([U,U,U,U,U,U,.d (.int .i64 (y2.length : Int)),.d (.int .u32 (IntKind.u32.wrap (IntKind.u64.wrap (Int.tdiv 1000000000 (IntKind.u64.wrap ((IntKind.u64.wrap e2) + 1)))))),.gr 0 1,.d (.list (List.map (eInt .u32) y7)),.gr 1 0,.d (.int .i64 v1.1),U,.d (.int .u64 v2.1),.d (.int .u64 v2.2),U,U,U,U,U,U,U,U,U,U,U,U,U,U,U,U,U,U,U,U,U,U,U,U,U,U,U,U,U,U,U,U,U,U,U,U,U,U,U,U,U,U,U,U,U,U,U,U,U,U,U,U,U,U,U,U,U,U,U,U,U,U,U,U,U,U,U,U,U,U,U,U,U,U,U,U,U,U,U,U,U,U,U,U,U,U,U,U,U,U,U,U,U,U,U,U,U,U,U,U,U,U,U,U,U,U,U,U,U,U,U,U,U,U,.d (.bool v3)] ++ us 49)) (fun v3=>⟨[[.rowc 101 1 (List.map (eInt .u32) v1.2.1)],[.rowc 101 0 (List.map (eInt .u32) v1.2.2)]],[]⟩) (fun _=>rfl) ?_ ?_)))
 refine .ite (fun h2=>?_) (fun h2=>?_)
 refine Mir.regionS (by kernel_rfl) fun e h=>stW.of (by kernel_rfl) ?_
 simp only [seval,EMI,w_none,w_eq,eInt,rmap_set,spD,h2]
 cases h
 simp only [seval,FMI,eInt,rmap_set,spD,h2]
 refine .bind fun e6 q6=>?_
 replace q6 := gt_ok q6
 refine .bind fun e7 q8=>?_
 replace q8 := gt_ok q8
 refine Mir.regionS (by kernel_rfl) fun e h=>stW.alt 18 rfl (by kernel_rfl) ?_
 simp only [seval,EMI,w_none,w_eq,und_49,sz_101,q6,ag_101,und_101,und_104,eInt,rmap_set,spD,h2]
 refine st_indexR rfl rfl rfl und_49 sz_101 (row_lo q8.1) (row_hi q8.2 q8.1) (stW.alt 0 rfl (by kernel_rfl) ?_)
 simp only [seval,EMI,w_none,w_eq,und_49,sz_101,eInt,rmap_set,spD,h2]
 refine st_loadR rfl rfl (row_at q8.2) (by simp only [↓reduceIte,nA,nL,pt_eq,ag_101,sz_101,dc_cons,dc_nil,SV,eInt] <;> rfl) (stW.of (by kernel_rfl) ?_)
 simp only [seval,EMI,w_none,w_eq,ag_101,sz_101,und_101,und_104,eInt,rmap_set,spD,h2]
 cases h
 simp only [seval,FMI,eInt,rmap_set,spD,h2]
 intro v3
 refine Mir.toK (.cond rfl (fun h3=>?_) (fun h3=>?_))
 refine .skip (Mir.toK (.block (.sR fun e h=>?_)))
 simp only [seval,EMI,eInt,rmap_set,spD]
 refine mU e (.sR fun e h=>?_) h
 simp only [seval,EMI,und_49,sz_101,q3,ag_101,und_101,und_104,eInt,rmap_set,spD]
 refine mU e (.sR fun e h=>?_) h
 simp only [seval,EMI,eInt,rmap_set,spD]
 refine mU e (.cond rfl (fun h4=>?_) (fun h4=>?_)) h
 refine .exit fun e h=>?_
 cases h
 simp only [seval,FMI,eInt,rmap_set,spD,Tryz.results125]
 refine .skip fun e h=>?_
 cases h
 simp only [seval,FMI,eInt,rmap_set,spD,Tryz.results125]
 refine .exit fun e h=>?_
 cases h
 simp only [seval,FMI,eInt,rmap_set,spD,Tryz.results125]
 intro v4
 refine Mir.toK (.seqK (.seqK (.guard fun q9=>?_)))
 replace q9 := gsl_of q9
 refine .bind fun v9 h5=>.regionW fun e h=>regW.alt 6 rfl ?_
 simp only [seval,EMI,w_none,w_eq,eInt,rmap_set,spD]
 refine alt_sliceR (l := Int.toNat v1.1) (h := Int.toNat (IntKind.i64.wrap ((IntKind.i64.wrap (v1.1 + (y2.length : Int))) + 1))) rfl rfl und_49 sz_101 (by simp only [seval,EMI,bd_some,bd_none,Option.map_some,Option.map_none,lm,q9.1,q9.2.1]) (by simp only [seval,EMI,bd_some,bd_none,Option.map_some,Option.map_none,lm,q9.1,q9.2.1]) q9.2.2.1 (by rw [lm]; exact q9.2.2.2) (regW.of ?_)
 simp only [seval,EMI,w_none,w_eq,und_49,eInt,rmap_set,spD]
 refine SpecS.inl Tryz.func142 rfl (by kernel_rfl) (by kernel_rfl) (fun v9 : Bool × (List Int)=>.d (.bool v9.1)) (fun v9=>⟨[[.rowc 101 1 (List.map (eInt .u32) v9.2)],[.rowc 101 0 (List.map (eInt .u32) v1.2.2)]],[]⟩) h5 rfl ?_ ?_
 simp only [List.replicate,List.length,nS,nA,Tryz.ntmps142,SV]
 refine .sR fun e h=>?_
 simp only [seval,EMI,eInt,rmap_set,spD]
 refine mU e (.sR fun e h=>?_) h
 simp only [seval,EMI,eInt,rmap_set,spD]
 refine mU e (.seqK (.seqK (.regionW fun e h=>regW.alt 1 rfl ?_))) h
 simp only [seval,EMI,w_none,w_eq,eInt,rmap_set,spD]
 refine alt_lenG rfl rfl und_49 (regW.of ?_)
 simp only [seval,EMI,w_none,w_eq,und_49,eInt,rmap_set,spD]
 refine mU e (Mir.joinO (fun v8 : Int × Int × (List Int)=>([U,U,U,U,U,U,U,.d (.int .u64 v8.1),.d (.int .u64 v8.2.1)] ++ us 53)) (fun v8=>⟨[[.rowc 101 1 (List.map (eInt .u32) v8.2.2)],[.rowc 101 0 (List.map (eInt .u32) v1.2.2)]],[]⟩) (fun _=>rfl) ?_ ?_) h
 refine .block (Mir.loop (fun v5 : Int × Int × Int × (List Int)=>([.gs 0 1 (Int.toNat v1.1) ((Int.toNat (IntKind.i64.wrap ((IntKind.i64.wrap (v1.1 + (y2.length : Int))) + 1))) - (Int.toNat v1.1)),.d (.list (List.map (eInt .u32) y7)),.d (.int .u64 v4),U,U,U,U,.d (.int .u64 v5.1),.d (.int .u64 v5.2.1),U,U,U,U,U,.d (.int .i64 (((Int.toNat (IntKind.i64.wrap ((IntKind.i64.wrap (v1.1 + (y2.length : Int))) + 1))) - (Int.toNat v1.1) : Nat) : Int)),.d (.int .i64 v5.2.2.1)] ++ us 46)) (fun v5=>⟨[[.rowc 101 1 (List.map (eInt .u32) v5.2.2.2)],[.rowc 101 0 (List.map (eInt .u32) v1.2.2)]],[]⟩) (fun _=>rfl) (by simp only [seval,FMI,eInt,rmap_set,spD]) (by simp only [seval,FMI,eInt,rmap_set,spD]) fun v5=>.sR fun e h=>?_)
 simp only [seval,EMI,eInt,rmap_set,spD]
 refine mU e (.seqK (.cond rfl (fun h6=>?_) (fun h6=>?_))) h
 refine .skip (Mir.toK (.seqK (.block (.sR fun e h=>?_))))
 simp only [seval,EMI,eInt,rmap_set,spD]
 refine mU e (.sR fun e h=>?_) h
 simp only [seval,EMI,eInt,rmap_set,spD]
 refine mU e (.seqK (.sR fun e h=>?_)) h
 simp only [seval,EMI,und_49,eInt,rmap_set,spD]
 refine mU e (Mir.joinO (fun v6 : Int=>([.gs 0 1 (Int.toNat v1.1) ((Int.toNat (IntKind.i64.wrap ((IntKind.i64.wrap (v1.1 + (y2.length : Int))) + 1))) - (Int.toNat v1.1)),.d (.list (List.map (eInt .u32) y7)),.d (.int .u64 v4),U,U,U,U,U,.d (.int .u64 v5.2.1),.d (.int .i64 v5.2.2.1),.d (.int .u64 v6),U,U,U,.d (.int .i64 (((Int.toNat (IntKind.i64.wrap ((IntKind.i64.wrap (v1.1 + (y2.length : Int))) + 1))) - (Int.toNat v1.1) : Nat) : Int)),.d (.int .i64 v5.2.2.1)] ++ us 46)) (fun v6=>⟨[[.rowc 101 1 (List.map (eInt .u32) v5.2.2.2)],[.rowc 101 0 (List.map (eInt .u32) v1.2.2)]],[]⟩) (fun _=>rfl) ?_ ?_) h
 refine .cond rfl (fun h7=>?_) (fun h7=>?_)
 refine .bind fun e8 q10=>?_
 replace q10 := gt_ok q10
 refine .region fun e h=>?_
 simp only [seval,EMI,und_49,sz_101,q10,ag_101,und_101,und_104,eInt,rmap_set,spD]
 cases h
 simp only [seval,FMI,eInt,rmap_set,spD,Tryz.results142]
 refine .skip fun e h=>?_
 cases h
 simp only [seval,FMI,eInt,rmap_set,spD,Tryz.results142]
 intro v6
 refine Mir.toK (.sR fun e h=>?_)
 simp only [seval,EMI,eInt,rmap_set,spD]
 refine mU e (.sR fun e h=>?_) h
 simp only [seval,EMI,eInt,rmap_set,spD]
 refine mU e (.sR fun e h=>?_) h
 simp only [seval,EMI,eInt,rmap_set,spD]
 refine mU e (.seqK (.guard fun q11=>?_)) h
 replace q11 := and_of q11
 refine .bind fun e9 q12=>?_
 replace q12 := gt_ok q12
 simp only [Int.toNat_natCast] at q12
 refine .regionW fun e h=>regW.alt 2 rfl ?_
 simp only [seval,EMI,w_none,w_eq,eInt,rmap_set,spD]
 refine alt_indexG rfl rfl rfl und_49 sz_101 q11.1 q11.2 (regW.alt 0 rfl ?_)
 simp only [seval,EMI,w_none,w_eq,und_49,sz_101,eInt,rmap_set,spD]
 refine alt_loadR rfl rfl (row_at q12.2) (by simp only [↓reduceIte,nA,nL,pt_eq,ag_101,sz_101,dc_cons,dc_nil,SV,eInt] <;> rfl) (regW.of ?_)
 simp only [seval,EMI,w_none,w_eq,ag_101,sz_101,und_101,und_104,eInt,rmap_set,spD]
 refine mU e (.seqK (.sR fun e h=>?_)) h
 simp only [seval,EMI,eInt,rmap_set,spD]
 refine mU e (Mir.joinO (fun v7 : Int × Int=>([.gs 0 1 (Int.toNat v1.1) ((Int.toNat (IntKind.i64.wrap ((IntKind.i64.wrap (v1.1 + (y2.length : Int))) + 1))) - (Int.toNat v1.1)),.d (.list (List.map (eInt .u32) y7)),.d (.int .u64 v4),U,U,U,U,.d (.int .u64 (IntKind.u64.wrap (Int.tdiv v6 1000000000))),.d (.int .u64 v7.1),.d (.int .i64 v5.2.2.1),U,.d (.int .u64 (IntKind.u64.wrap ((Int.tmod v6 1000000000) + v5.2.1))),.d (.int .u64 v7.2),U,.d (.int .i64 (((Int.toNat (IntKind.i64.wrap ((IntKind.i64.wrap (v1.1 + (y2.length : Int))) + 1))) - (Int.toNat v1.1) : Nat) : Int)),.d (.int .i64 v5.2.2.1)] ++ us 46)) (fun v7=>⟨[[.rowc 101 1 (List.map (eInt .u32) v5.2.2.2)],[.rowc 101 0 (List.map (eInt .u32) v1.2.2)]],[]⟩) (fun _=>rfl) ?_ ?_) h
 refine .cond rfl (fun h8=>?_) (fun h8=>?_)
 refine .region fun e h=>?_
 simp only [seval,EMI,eInt,rmap_set,spD]
 cases h
 simp only [seval,FMI,eInt,rmap_set,spD,Tryz.results142]
 refine .skip fun e h=>?_
 cases h
 simp only [seval,FMI,eInt,rmap_set,spD,Tryz.results142]
 intro v7
 refine Mir.toK (.guard fun q16=>?_)
 replace q16 := and_of q16
 refine .bind fun e10 q18=>?_
 replace q18 := gt_ok q18
 simp only [Int.toNat_natCast] at q18
 refine .regionW fun e h=>regW.alt 6 rfl ?_
 simp only [seval,EMI,w_none,w_eq,und_104,und_101,eInt,rmap_set,spD]
 refine alt_indexG rfl rfl rfl und_49 sz_101 q16.1 q16.2 (regW.alt 0 rfl ?_)
 simp only [seval,EMI,w_none,w_eq,und_49,sz_101,eInt,rmap_set,spD]
 refine alt_storeR rfl rfl (row_at q18.2) rfl rfl sz_101 rfl (Nat.le_of_ble_eq_true rfl) (regW.of ?_)
 simp only [seval,EMI,w_none,w_eq,sz_101,eInt,rmap_set,spD]
 refine mU e (.region fun e h=>?_) h
 simp only [seval,EMI,eInt,rmap_set,spD]
 cases h
 simp only [seval,FMI,eInt,rmap_set,spD,Tryz.results142]
 refine .exit fun e h=>?_
 cases h
 simp only [seval,FMI,eInt,rmap_set,spD,Tryz.results142]
 intro v8
 refine Mir.toK (.seqK (.joinV ([U,U,U,U,U,U,.d (.bool ((decide (v8.2.1 > 0)) || (decide (v8.1 > 0))))] ++ us 55) ⟨[[.rowc 101 1 (List.map (eInt .u32) v8.2.2)],[.rowc 101 0 (List.map (eInt .u32) v1.2.2)]],[]⟩ rfl ?_ ?_))
 refine SWs.region ?_
 rcases Bool.eq_false_or_eq_true (decide (v8.2.1 > 0)) with h9 | h9
 simp only [seval,EMI,SL,PB,h9,eInt,rmap_set,spD]
 simp only [seval,EMI,SL,PB,h9,eInt,rmap_set,spD]
 refine Mir.toK (.ret fun e h=>?_)
 cases h
 simp only [seval,FMI,eInt,rmap_set,spD,Tryz.results142]
 simp only [seval,EMI,w_none,w_eq,eInt,rmap_set,spD]
 refine mU e (Mir.joinO (fun v14 : Int × (List Int)=>([U,U,U,U,U,U,.d (.int .i64 (y2.length : Int)),.d (.int .u32 (IntKind.u32.wrap (IntKind.u64.wrap (Int.tdiv 1000000000 (IntKind.u64.wrap ((IntKind.u64.wrap e2) + 1)))))),.gr 0 1,.d (.list (List.map (eInt .u32) y7)),.gr 1 0,.d (.int .i64 v1.1),U,.d (.int .u64 v14.1)] ++ us 165)) (fun v14=>⟨[[.rowc 101 1 (List.map (eInt .u32) v14.2)],[.rowc 101 0 (List.map (eInt .u32) v1.2.2)]],[]⟩) (fun _=>rfl) ?_ ?_) h
 refine .cond rfl (fun h10=>?_) (fun h10=>?_)
 refine .sR fun e h=>?_
 simp only [seval,EMI,eInt,rmap_set,spD]
 refine mU e (.guard fun q19=>?_) h
 replace q19 := gsl_of q19
 refine .bind fun v13 h11=>.regionW fun e h=>regW.alt 6 rfl ?_
 simp only [seval,EMI,w_none,w_eq,eInt,rmap_set,spD]
 refine alt_sliceR (l := Int.toNat v1.1) (h := Int.toNat (IntKind.i64.wrap ((IntKind.i64.wrap (v1.1 + (y2.length : Int))) + 1))) rfl rfl und_49 sz_101 (by simp only [seval,EMI,bd_some,bd_none,Option.map_some,Option.map_none,lm,q19.1,q19.2.1]) (by simp only [seval,EMI,bd_some,bd_none,Option.map_some,Option.map_none,lm,q19.1,q19.2.1]) q19.2.2.1 (by rw [lm]; exact q19.2.2.2) (regW.of ?_)
 simp only [seval,EMI,w_none,w_eq,und_49,eInt,rmap_set,spD]
 refine SpecS.inl Tryz.func143 rfl (by kernel_rfl) (by kernel_rfl) (fun v13 : (List Int)=>.tuple []) (fun v13=>⟨[[.rowc 101 1 (List.map (eInt .u32) v13)],[.rowc 101 0 (List.map (eInt .u32) v1.2.2)]],[]⟩) h11 rfl ?_ ?_
 simp only [List.replicate,List.length,nS,nA,Tryz.ntmps143,SV]
 refine .sR fun e h=>?_
 simp only [seval,EMI,eInt,rmap_set,spD]
 refine mU e (.seqK (.regionW fun e h=>regW.alt 1 rfl ?_)) h
 simp only [seval,EMI,w_none,w_eq,eInt,rmap_set,spD]
 refine alt_lenG rfl rfl und_49 (regW.of ?_)
 simp only [seval,EMI,w_none,w_eq,und_49,eInt,rmap_set,spD]
 refine mU e (.block (Mir.loop (fun v10 : Int × Int × (List Int)=>([.gs 0 1 (Int.toNat v1.1) ((Int.toNat (IntKind.i64.wrap ((IntKind.i64.wrap (v1.1 + (y2.length : Int))) + 1))) - (Int.toNat v1.1)),.d (.list (List.map (eInt .u32) y7)),U,U,.d (.int .u32 v10.1),U,U,U,.d (.int .i64 (((Int.toNat (IntKind.i64.wrap ((IntKind.i64.wrap (v1.1 + (y2.length : Int))) + 1))) - (Int.toNat v1.1) : Nat) : Int)),.d (.int .i64 v10.2.1)] ++ us 27)) (fun v10=>⟨[[.rowc 101 1 (List.map (eInt .u32) v10.2.2)],[.rowc 101 0 (List.map (eInt .u32) v1.2.2)]],[]⟩) (fun _=>rfl) (by simp only [seval,FMI,eInt,rmap_set,spD]) (by simp only [seval,FMI,eInt,rmap_set,spD]) fun v10=>.sR fun e h=>?_)) h
 simp only [seval,EMI,eInt,rmap_set,spD]
 refine mU e (.seqK (.cond rfl (fun h12=>?_) (fun h12=>?_))) h
 refine .skip (Mir.toK (.seqK (.block (.sR fun e h=>?_))))
 simp only [seval,EMI,eInt,rmap_set,spD]
 refine mU e (.seqK (.guard fun q22=>?_)) h
 replace q22 := and_of q22
 refine .bind fun e11 q23=>?_
 replace q23 := gt_ok q23
 simp only [Int.toNat_natCast] at q23
 refine .regionW fun e h=>regW.alt 2 rfl ?_
 simp only [seval,EMI,w_none,w_eq,eInt,rmap_set,spD]
 refine alt_indexG rfl rfl rfl und_49 sz_101 q22.1 q22.2 (regW.alt 0 rfl ?_)
 simp only [seval,EMI,w_none,w_eq,und_49,sz_101,eInt,rmap_set,spD]
 refine alt_loadR rfl rfl (row_at q23.2) (by simp only [↓reduceIte,nA,nL,pt_eq,ag_101,sz_101,dc_cons,dc_nil,SV,eInt] <;> rfl) (regW.of ?_)
 simp only [seval,EMI,w_none,w_eq,ag_101,sz_101,eInt,rmap_set,spD]
 refine mU e (.seqK (.sR fun e h=>?_)) h
 simp only [seval,EMI,und_49,eInt,rmap_set,spD]
 refine mU e (Mir.joinO (fun v11 : Int=>([.gs 0 1 (Int.toNat v1.1) ((Int.toNat (IntKind.i64.wrap ((IntKind.i64.wrap (v1.1 + (y2.length : Int))) + 1))) - (Int.toNat v1.1)),.d (.list (List.map (eInt .u32) y7)),U,U,U,.d (.int .i64 v10.2.1),.d (.int .u32 v11),U,.d (.int .i64 (((Int.toNat (IntKind.i64.wrap ((IntKind.i64.wrap (v1.1 + (y2.length : Int))) + 1))) - (Int.toNat v1.1) : Nat) : Int)),.d (.int .i64 v10.2.1)] ++ us 27)) (fun v11=>⟨[[.rowc 101 1 (List.map (eInt .u32) v10.2.2)],[.rowc 101 0 (List.map (eInt .u32) v1.2.2)]],[]⟩) (fun _=>rfl) ?_ ?_) h
 refine .cond rfl (fun h13=>?_) (fun h13=>?_)
 refine .bind fun e12 q24=>?_
 replace q24 := gt_ok q24
 refine .region fun e h=>?_
 simp only [seval,EMI,und_49,sz_101,q24,ag_101,eInt,rmap_set,spD]
 cases h
 simp only [seval,FMI,eInt,rmap_set,spD,Tryz.results143]
 refine .skip fun e h=>?_
 cases h
 simp only [seval,FMI,eInt,rmap_set,spD,Tryz.results143]
 intro v11
 refine Mir.toK (.sR fun e h=>?_)
 simp only [seval,EMI,eInt,rmap_set,spD]
 refine mU e (.seqK (.sR fun e h=>?_)) h
 simp only [seval,EMI,eInt,rmap_set,spD]
 refine mU e (Mir.joinO (fun v12 : Int × Int=>([.gs 0 1 (Int.toNat v1.1) ((Int.toNat (IntKind.i64.wrap ((IntKind.i64.wrap (v1.1 + (y2.length : Int))) + 1))) - (Int.toNat v1.1)),.d (.list (List.map (eInt .u32) y7)),U,U,.d (.int .u32 v12.1),.d (.int .i64 v10.2.1),.d (.int .u32 v12.2),U,.d (.int .i64 (((Int.toNat (IntKind.i64.wrap ((IntKind.i64.wrap (v1.1 + (y2.length : Int))) + 1))) - (Int.toNat v1.1) : Nat) : Int)),.d (.int .i64 v10.2.1)] ++ us 27)) (fun v12=>⟨[[.rowc 101 1 (List.map (eInt .u32) v10.2.2)],[.rowc 101 0 (List.map (eInt .u32) v1.2.2)]],[]⟩) (fun _=>rfl) ?_ ?_) h
 refine .cond rfl (fun h14=>?_) (fun h14=>?_)
 refine .region fun e h=>?_
 simp only [seval,EMI,eInt,rmap_set,spD]
 cases h
 simp only [seval,FMI,eInt,rmap_set,spD,Tryz.results143]
 refine .skip fun e h=>?_
 cases h
 simp only [seval,FMI,eInt,rmap_set,spD,Tryz.results143]
 intro v12
 refine Mir.toK (.guard fun q25=>?_)
 replace q25 := and_of q25
 refine .bind fun e13 q26=>?_
 replace q26 := gt_ok q26
 simp only [Int.toNat_natCast] at q26
 refine .regionW fun e h=>regW.alt 3 rfl ?_
 simp only [seval,EMI,w_none,w_eq,eInt,rmap_set,spD]
 refine alt_indexG rfl rfl rfl und_49 sz_101 q25.1 q25.2 (regW.alt 0 rfl ?_)
 simp only [seval,EMI,w_none,w_eq,und_49,sz_101,eInt,rmap_set,spD]
 refine alt_storeR rfl rfl (row_at q26.2) rfl rfl sz_101 rfl (Nat.le_of_ble_eq_true rfl) (regW.of ?_)
 simp only [seval,EMI,w_none,w_eq,sz_101,eInt,rmap_set,spD]
 refine mU e (.region fun e h=>?_) h
 simp only [seval,EMI,eInt,rmap_set,spD]
 cases h
 simp only [seval,FMI,eInt,rmap_set,spD,Tryz.results143]
 refine .exit fun e h=>?_
 cases h
 simp only [seval,FMI,eInt,rmap_set,spD,Tryz.results143]
 simp only [seval,EMI,w_none,w_eq,eInt,rmap_set,spD]
 cases h
 simp only [seval,FMI,eInt,rmap_set,spD,Tryz.results125]
 refine .skip fun e h=>?_
 cases h
 simp only [seval,FMI,eInt,rmap_set,spD,Tryz.results125]
 intro v14
 refine Mir.toK (.bind fun e14 q27=>?_)
 replace q27 := gt_ok q27
 refine .regionW fun e h=>regW.alt 4 rfl ?_
 simp only [seval,EMI,w_none,w_eq,und_104,und_101,eInt,rmap_set,spD]
 refine alt_indexR rfl rfl rfl und_49 sz_101 (row_lo q27.1) (row_hi q27.2 q27.1) (regW.alt 0 rfl ?_)
 simp only [seval,EMI,w_none,w_eq,und_49,sz_101,eInt,rmap_set,spD]
 refine alt_storeR rfl rfl (row_at q27.2) rfl rfl sz_101 rfl (Nat.le_of_ble_eq_true rfl) (regW.of ?_)
 simp only [seval,EMI,w_none,w_eq,sz_101,eInt,rmap_set,spD]
 cases h
 simp only [seval,FMI,eInt,rmap_set,spD,Tryz.results125]
 intro v15
 refine Mir.toK (.region fun e h=>?_)
 simp only [seval,EMI,eInt,rmap_set,spD]
 cases h
 simp only [seval,FMI,eInt,rmap_set,spD,Tryz.results125]
 refine .exit fun e h=>?_
 cases h
 simp only [seval,FMI,eInt,rmap_set,spD,Tryz.results125]
 intro v16
 refine Mir.toK (.seqK (.frz 0 rfl ?_))
 simp only [seval,us_0,us_s,xCA,xNA,and_self,and_true,true_and,and_false,false_and,SZ]
 refine .bind fun s1 q28=>?_
 replace q28 := cutT_ok q28
 refine .bind fun y8 h15=>.bind fun y9 h16=>.region fun e h=>?_
 simp only [seval,EMI,und_49,sz_101,q28,Nat.le_refl,and_true,true_and,dm,tm,al_eInt,eInt,rmap_set,spD]
 refine SpecS.by (it_trim_spec h15) (by simp only [seval,FMI,eInt,rmap_set,spD]) ?_
 simp only [seval,EMI,eInt,rmap_set,spD]
 refine SpecS.by (it_byWord_spec h16) (by simp only [seval,FMI,eInt,rmap_set,spD]) ?_
 simp only [seval,EMI,eInt,rmap_set,spD]
 refine mU e (.sR fun e h=>?_) h
 simp only [seval,EMI,eInt,rmap_set,spD]
 refine mU e (.frz 1 rfl ?_) h
 simp only [seval,us_0,us_s,xCA,xNA,and_self,and_true,true_and,and_false,false_and,SZ]
 refine .ret fun e h=>?_
 cases h
 simp only [seval,FMI,eInt,rmap_set,spD,Tryz.results125]
def it_split (a0 : Int) : Option (List Int) := some [IntKind.u32.wrap (Int.tmod a0 1000000000), IntKind.u32.wrap (Int.tmod (IntKind.u64.wrap (Int.tdiv a0 1000000000)) 1000000000), IntKind.u32.wrap (IntKind.u64.wrap (Int.tdiv (IntKind.u64.wrap (Int.tdiv a0 1000000000)) 1000000000))]
theorem it_split_spec {a0 : Int} {y : (List Int)} (h : it_split a0 = some y) : Spec gP 98 [.d (.int .u64 a0)] (.d (.list (List.map (eInt .u32) y))) := by
 refine spec_mir Tryz.func98 rfl (by kernel_rfl) (by kernel_rfl) (fun y : (List Int) => .d (.list (List.map (eInt .u32) y))) ?_ h
 unfold it_split
 simp only [List.replicate, List.length, nS, nA, Tryz.ntmps98, SV]
 refine .sR fun e h=>?_
 simp only [seval,EMI,eInt]
 refine mU e (.sR fun e h=>?_) h
 simp only [seval,EMI,und_104,und_101,und_49,sz_101,zero_101,(oL 3),eInt]
 refine mU e (.ret fun e h=>?_) h
 cases h
 simp only [seval,FMI,eInt,Tryz.results98]
def it_FromInt64 (a0 : Int) : Option ApiInt := bindO (if (decide (a0 < 0)) = true then some (IntKind.u64.wrap (0 - (IntKind.u64.wrap a0))) else some (IntKind.u64.wrap a0)) fun (v1 : Int) => bindO (it_split v1) fun (y1 : (List Int)) => bindO (it_signed (decide (a0 < 0)) y1) fun (y2 : ApiInt) => some y2
theorem it_FromInt64_spec {a0 : Int} {y : ApiInt} (h : it_FromInt64 a0 = some y) : Spec gP 69 [.d (.int .i64 a0)] (.agg [.d (.bool y.Neg), .d (.list (List.map (eInt .u32) y.Limbs))]) := by
 refine spec_mir Tryz.func69 rfl (by kernel_rfl) (by kernel_rfl) (fun y : ApiInt => .agg [.d (.bool y.Neg), .d (.list (List.map (eInt .u32) y.Limbs))]) ?_ h
 unfold it_FromInt64
 simp only [List.replicate, List.length, nS, nA, Tryz.ntmps69, SV]
 refine .sR fun e h=>?_
 simp only [seval,EMI,zero_51]
 refine mU e (.sR fun e h=>?_) h
 simp only [seval,EMI,und_2,und_104]
 refine mU e (.seqK (.sR fun e h=>?_)) h
 simp only [seval,EMI]
 refine mU e (Mir.joinO (fun v1 : Int=>([.d (.int .i64 a0),U,.ptr 0 0,.d (.int .u64 v1)] ++ us 11)) (fun v1=>⟨[[.d (.bool false),.nil]],[]⟩) (fun _=>rfl) ?_ ?_) h
 refine .cond rfl (fun hb2=>?_) (fun hb2=>?_)
 refine .region fun e h=>?_
 simp only [seval,EMI]
 cases h
 simp only [seval,FMI,Tryz.results69,ag_51,sz_51]
 refine .skip fun e h=>?_
 cases h
 simp only [seval,FMI,Tryz.results69,ag_51,sz_51]
 intro v1
 refine Mir.toK (.seqK (.bind fun y1 hy3=>.bind fun y2 hy4=>.region fun e h=>?_))
 simp only [seval,EMI]
 refine SpecS.by (it_split_spec hy3) (by simp only [seval,FMI]) ?_
 simp only [seval,EMI]
 refine SpecS.by (it_signed_spec hy4) (by simp only [seval,FMI]) ?_
 simp only [seval,EMI,sz_51]
 refine mU e (.ret fun e h=>?_) h
 cases h
 simp only [seval,FMI,Tryz.results69,ag_51,sz_51]
def it_Sub (a0 : ApiInt) (a1 : ApiInt) : Option ApiInt := bindO (it_Add a0 (ApiInt.mk (!a1.Neg && (decide ((a1.Limbs.length : Int) > 0))) a1.Limbs)) fun (y1 : ApiInt) => some y1
theorem it_Sub_spec {a0 : ApiInt} {a1 : ApiInt} {y : ApiInt} (h : it_Sub a0 a1 = some y) : Spec gP 144 [.agg [.d (.bool a0.Neg), .d (.list (List.map (eInt .u32) a0.Limbs))], .agg [.d (.bool a1.Neg), .d (.list (List.map (eInt .u32) a1.Limbs))]] (.agg [.d (.bool y.Neg), .d (.list (List.map (eInt .u32) y.Limbs))]) := by
 refine spec_mir Tryz.func144 rfl (by kernel_rfl) (by kernel_rfl) (fun y : ApiInt => .agg [.d (.bool y.Neg), .d (.list (List.map (eInt .u32) y.Limbs))]) ?_ h
 unfold it_Sub
 simp only [List.replicate, List.length, nS, nA, Tryz.ntmps144, SV]
 refine .sR fun e h=>?_
 simp only [seval,EMI,zero_51,eInt]
 refine mU e (.seqK (.joinV ([U,U,.ptr 0 0,.ptr 1 0,.ptr 2 0] ++ us 13) ⟨[[.d (.bool a0.Neg),.d (.list (List.map (eInt .u32) a0.Limbs))],[.d (.bool (!a1.Neg && (decide ((a1.Limbs.length : Int) > 0)))),.d (.list (List.map (eInt .u32) a1.Limbs))],[.d (.bool false),.nil]],[]⟩ rfl ?_ ?_)) h
 refine SWs.region ?_
 rcases Bool.eq_false_or_eq_true (a1.Neg) with hb1 | hb1
 simp only [seval,EMI,SL,PB,fld_51_0,sz_4,ag_4,hb1,eInt]
 simp only [seval,EMI,SL,PB,fld_51_0,sz_4,ag_4,fld_51_1,sz_49,ag_49,und_49,hb1,eInt]
 refine Mir.toK (.seqK (.bind fun y1 hy2=>.region fun e h=>?_))
 simp only [seval,EMI,ag_51,sz_51,eInt]
 refine SpecS.by (it_Add_spec hy2) (by simp only [seval,FMI,eInt]) ?_
 simp only [seval,EMI,sz_51,eInt]
 refine mU e (.ret fun e h=>?_) h
 cases h
 simp only [seval,FMI,eInt,Tryz.results144,ag_51,sz_51]
def it_DivMod (a0 : ApiInt) (a1 : ApiInt) : Option (ApiInt × ApiInt × Int) := if ((a1.Limbs.length : Int) == 0) = true then some (ApiInt.mk false [], ApiInt.mk false [], 6) else bindO (it_divide a0.Limbs a1.Limbs) fun (y1 : (List Int) × (List Int)) => bindO (it_signed (!(a0.Neg == a1.Neg)) y1.1) fun (y2 : ApiInt) => bindO (it_signed a0.Neg y1.2) fun (y3 : ApiInt) => bindO (if ((decide ((y3.Limbs.length : Int) > 0)) && (!(y3.Neg == a1.Neg))) = true then bindO (it_FromInt64 1) fun (y4 : ApiInt) => bindO (it_Sub y2 y4) fun (y5 : ApiInt) => bindO (it_Add y3 a1) fun (y6 : ApiInt) => some (y5, y6) else some (y2, y3)) fun (v1 : ApiInt × ApiInt) => some (v1.1, v1.2, 0)
theorem it_DivMod_spec {a0 : ApiInt} {a1 : ApiInt} {y : ApiInt × ApiInt × Int} (h : it_DivMod a0 a1 = some y) : Spec gP 127 [.agg [.d (.bool a0.Neg), .d (.list (List.map (eInt .u32) a0.Limbs))], .agg [.d (.bool a1.Neg), .d (.list (List.map (eInt .u32) a1.Limbs))]] (.tuple [.agg [.d (.bool y.1.Neg), .d (.list (List.map (eInt .u32) y.1.Limbs))], .agg [.d (.bool y.2.1.Neg), .d (.list (List.map (eInt .u32) y.2.1.Limbs))], .d (.int .i64 y.2.2)]) := by
 refine spec_mir Tryz.func127 rfl (by kernel_rfl) (by kernel_rfl) (fun y : ApiInt × ApiInt × Int => .tuple [.agg [.d (.bool y.1.Neg), .d (.list (List.map (eInt .u32) y.1.Limbs))], .agg [.d (.bool y.2.1.Neg), .d (.list (List.map (eInt .u32) y.2.1.Limbs))], .d (.int .i64 y.2.2)]) ?_ h
 unfold it_DivMod
 simp only [List.replicate, List.length, nS, nA, Tryz.ntmps127, SV]
 refine .sR fun e h=>?_
 simp only [seval,EMI,zero_51,eInt]
 refine mU e (.seqK (.sR fun e h=>?_)) h
 simp only [seval,EMI,fld_51_1,sz_49,ag_49,und_49,eInt]
 refine mU e (.cond rfl (fun hb2=>?_) (fun hb2=>?_)) h
 refine .sR fun e h=>?_
 simp only [seval,EMI,zero_51,pl_51,sz_51,eInt]
 refine mU e (.ret fun e h=>?_) h
 cases h
 simp only [seval,FMI,eInt,Tryz.results127,ag_51,sz_51]
 refine .skip (Mir.toK (.seqK (.bind fun y1 hy3=>.region fun e h=>?_)))
 simp only [seval,EMI,fld_51_1,sz_49,ag_49,eInt]
 refine SpecS.by (it_divide_spec hy3) (by simp only [seval,FMI,eInt]) ?_
 simp only [seval,EMI,eInt]
 refine mU e (.seqK (.bind fun y2 hy4=>.bind fun y3 hy5=>.regionD [] (by kernel_rfl) fun e h=>?_)) h
 simp only [seval,EMI,SB,fld_51_0,sz_4,ag_4,und_4,eInt]
 refine Spec.by (it_signed_spec hy4) (by simp only [seval,FMI,eInt]) ?_
 simp only [seval,EMI,SB,fld_51_0,sz_4,ag_4,eInt]
 refine Spec.by (it_signed_spec hy5) (by simp only [seval,FMI,eInt]) ?_
 simp only [seval,EMI,SB,zero_51,sz_51,eInt]
 refine mU e (.seqK (.seqK (.joinV ([U,U,U,.ptr 1 0,.ptr 2 0,.ptr 3 0,U,U,U,.ptr 4 0,.ptr 5 0,U,U,U,U,U,U,U,U,U,U,U,U,U,U,U,U,U,U,U,U,U,U,U,U,U,U,U,U,U,U,U,U,U,U,U,.d (.bool ((decide ((y3.Limbs.length : Int) > 0)) && (!(y3.Neg == a1.Neg))))] ++ us 8) ⟨[[.d (.bool a0.Neg),.d (.list (List.map (eInt .u32) a0.Limbs))],[.d (.bool a1.Neg),.d (.list (List.map (eInt .u32) a1.Limbs))],[.d (.bool false),.nil],[.d (.bool false),.nil],[.d (.bool y2.Neg),.d (.list (List.map (eInt .u32) y2.Limbs))],[.d (.bool y3.Neg),.d (.list (List.map (eInt .u32) y3.Limbs))]],[]⟩ rfl ?_ ?_))) h
 refine SWs.region ?_
 rcases Bool.eq_false_or_eq_true (decide ((y3.Limbs.length : Int) > 0)) with hb6 | hb6
 simp only [seval,EMI,SL,PB,fld_51_1,sz_49,ag_49,und_49,fld_51_0,sz_4,ag_4,und_4,hb6,eInt]
 simp only [seval,EMI,SL,PB,fld_51_1,sz_49,ag_49,und_49,hb6,eInt]
 refine Mir.toK (Mir.joinO (fun v1 : ApiInt × ApiInt=>([U,U,U,U,.ptr 2 0,.ptr 3 0,U,U,U,.ptr 4 0,.ptr 5 0] ++ us 44)) (fun v1=>⟨[[.d (.bool a0.Neg),.d (.list (List.map (eInt .u32) a0.Limbs))],[.d (.bool a1.Neg),.d (.list (List.map (eInt .u32) a1.Limbs))],[.d (.bool false),.nil],[.d (.bool false),.nil],[.d (.bool v1.1.Neg),.d (.list (List.map (eInt .u32) v1.1.Limbs))],[.d (.bool v1.2.Neg),.d (.list (List.map (eInt .u32) v1.2.Limbs))]],[]⟩) (fun _=>rfl) ?_ ?_)
 refine .cond rfl (fun hb11=>?_) (fun hb11=>?_)
 refine .bind fun y4 hy12=>.bind fun y5 hy13=>.bind fun y6 hy14=>.regionD [] (by kernel_rfl) fun e h=>?_
 simp only [seval,EMI,SB,ag_51,sz_51,eInt]
 refine Spec.by (it_FromInt64_spec hy12) (by simp only [seval,FMI,eInt]) ?_
 simp only [seval,EMI,SB,eInt]
 refine Spec.by (it_Sub_spec hy13) (by simp only [seval,FMI,eInt]) ?_
 simp only [seval,EMI,SB,ag_51,sz_51,eInt]
 refine Spec.by (it_Add_spec hy14) (by simp only [seval,FMI,eInt]) ?_
 simp only [seval,EMI,SB,sz_51,eInt]
 cases h
 simp only [seval,FMI,eInt,Tryz.results127,ag_51,sz_51]
 refine .skip fun e h=>?_
 cases h
 simp only [seval,FMI,eInt,Tryz.results127,ag_51,sz_51]
 intro v1
 refine Mir.toK (.seqK (.regionD [(10,4)] (by kernel_rfl) fun e h=>?_))
 simp only [seval,EMI,SB,ag_51,sz_51,eInt]
 refine mU e (.ret fun e h=>?_) h
 cases h
 simp only [seval,FMI,eInt,Tryz.results127,ag_51,sz_51]
def it_word (a0 : ApiInt) : Option (Int × Bool) := if ((a0.Limbs.length : Int) == 0) = true then some (0, true) else if ((a0.Limbs.length : Int) == 1) = true then bindO (gt a0.Limbs 0) fun (e1 : Int) => some (IntKind.u64.wrap e1, true) else if ((a0.Limbs.length : Int) == 2) = true then bindO (gt a0.Limbs 1) fun (e2 : Int) => bindO (gt a0.Limbs 0) fun (e3 : Int) => some (IntKind.u64.wrap ((IntKind.u64.wrap ((IntKind.u64.wrap e2) * 1000000000)) + (IntKind.u64.wrap e3)), true) else some (0, false)
theorem it_word_spec {a0 : ApiInt} {y : Int × Bool} (h : it_word a0 = some y) : Spec gP 124 [.agg [.d (.bool a0.Neg), .d (.list (List.map (eInt .u32) a0.Limbs))]] (.tuple [.d (.int .u64 y.1), .d (.bool y.2)]) := by
 refine spec_mir Tryz.func124 rfl (by kernel_rfl) (by kernel_rfl) (fun y : Int × Bool => .tuple [.d (.int .u64 y.1), .d (.bool y.2)]) ?_ h
 unfold it_word
 simp only [List.replicate, List.length, nS, nA, Tryz.ntmps124, SV]
 refine .sR fun e h=>?_
 simp only [seval,EMI,eInt]
 refine mU e (.seqK (.sR fun e h=>?_)) h
 simp only [seval,EMI,fld_51_1,sz_49,ag_49,und_49,eInt]
 refine mU e (.block (.sR fun e h=>?_)) h
 simp only [seval,EMI,eInt]
 refine mU e (.cond rfl (fun hb13=>?_) (fun hb13=>?_)) h
 refine .sR fun e h=>?_
 simp only [seval,EMI,eInt]
 refine mU e (.ret fun e h=>?_) h
 cases h
 simp only [seval,FMI,eInt,Tryz.results124]
 refine .sR fun e h=>?_
 simp only [seval,EMI,eInt]
 refine mU e (.cond rfl (fun hb19=>?_) (fun hb19=>?_)) h
 refine .seqK (.bind fun e1 q20=>?_)
 replace q20 := gt_ok q20
 simp only [Int.reduceToNat,Int.reduceLT,Nat.sub_zero,dp0] at q20
 refine .region fun e h=>?_
 simp only [seval,EMI,fld_51_1,sz_49,ag_49,und_49,sz_101,q20,ag_101,und_101,und_104,eInt]
 refine mU e (.ret fun e h=>?_) h
 cases h
 simp only [seval,FMI,eInt,Tryz.results124]
 refine .sR fun e h=>?_
 simp only [seval,EMI,eInt]
 refine mU e (.cond rfl (fun hb24=>?_) (fun hb24=>?_)) h
 refine .seqK (.bind fun e2 q25=>?_)
 replace q25 := gt_ok q25
 simp only [Int.reduceToNat,Int.reduceLT,Nat.sub_zero,dp0] at q25
 refine .bind fun e3 q26=>?_
 replace q26 := gt_ok q26
 simp only [Int.reduceToNat,Int.reduceLT,Nat.sub_zero,dp0] at q26
 refine .regionD [] (by kernel_rfl) fun e h=>?_
 simp only [seval,EMI,SB,fld_51_1,sz_49,ag_49,und_49,sz_101,q25,ag_101,und_101,und_104,q26,eInt]
 refine mU e (.ret fun e h=>?_) h
 cases h
 simp only [seval,FMI,eInt,Tryz.results124]
 refine .skip (Mir.toB (Mir.toK (.sR fun e h=>?_)))
 simp only [seval,EMI,eInt]
 refine mU e (.ret fun e h=>?_) h
 cases h
 simp only [seval,FMI,eInt,Tryz.results124]
def it_GCD (a0 : ApiInt) (a1 : ApiInt) : Option ApiInt := bindO (it_signed false a0.Limbs) fun (y1 : ApiInt) => bindO (it_signed false a1.Limbs) fun (y2 : ApiInt) => bindX (loopX (fun (v1 : ApiInt × ApiInt) => if (decide ((v1.2.Limbs.length : Int) > 0)) = true then bindO (it_word v1.1) fun (y3 : Int × Bool) => bindO (it_word v1.2) fun (y4 : Int × Bool) => bindX (if (y3.2 && y4.2) = true then bindO (loopX (fun (v2 : Int × Int) => if (decide (v2.2 > 0)) = true then guardO (!(v2.2 == 0)) ( some (.go (v2.2, Int.tmod v2.1 v2.2))) else some (.ret v2.1)) fuel (y3.1, y4.1)) fun (v3 : Int) => bindO (it_split v3) fun (y5 : (List Int)) => bindO (it_signed false y5) fun (y6 : ApiInt) => some (.ret (.ret (.ret y6))) else some (.go ())) fun (v4 : Unit) => bindO (it_divide v1.1.Limbs v1.2.Limbs) fun (y7 : (List Int) × (List Int)) => bindO (it_signed false y7.2) fun (y8 : ApiInt) => some (.go (v1.2, y8)) else some (.ret (.go (v1.1, v1.2)))) fuel (y1, y2)) fun (v5 : ApiInt × ApiInt) => guardO (okLen (v5.1.Limbs.length)) ( bindO (it_signed false v5.1.Limbs) fun (y9 : ApiInt) => some y9)
theorem it_GCD_spec {a0 : ApiInt} {a1 : ApiInt} {y : ApiInt} (h : it_GCD a0 a1 = some y) : Spec gP 93 [.agg [.d (.bool a0.Neg), .d (.list (List.map (eInt .u32) a0.Limbs))], .agg [.d (.bool a1.Neg), .d (.list (List.map (eInt .u32) a1.Limbs))]] (.agg [.d (.bool y.Neg), .d (.list (List.map (eInt .u32) y.Limbs))]) := by
 refine spec_mir Tryz.func93 rfl (by kernel_rfl) (by kernel_rfl) (fun y : ApiInt => .agg [.d (.bool y.Neg), .d (.list (List.map (eInt .u32) y.Limbs))]) ?_ h
 unfold it_GCD
 simp only [List.replicate, List.length, nS, nA, Tryz.ntmps93, SV]
 refine .sR fun e h=>?_
 simp only [seval,EMI,zero_51,eInt]
 refine mU e (.seqK (.bind fun y1 hy1=>.bind fun y2 hy2=>.regionD [] (by kernel_rfl) fun e h=>?_)) h
 simp only [seval,EMI,SB,fld_51_1,sz_49,ag_49,eInt]
 refine Spec.by (it_signed_spec hy1) (by simp only [seval,FMI,eInt]) ?_
 simp only [seval,EMI,SB,fld_51_1,sz_49,ag_49,eInt]
 refine Spec.by (it_signed_spec hy2) (by simp only [seval,FMI,eInt]) ?_
 simp only [seval,EMI,SB,zero_51,sz_51,eInt]
 refine mU e (.seqK (Mir.join (fun v5 : ApiInt × ApiInt=>([U,U,U,U,.ptr 2 0,.ptr 3 0] ++ us 55)) (fun v5=>⟨[[.d (.bool a0.Neg),.d (.list (List.map (eInt .u32) a0.Limbs))],[.d (.bool a1.Neg),.d (.list (List.map (eInt .u32) a1.Limbs))],[.d (.bool false),.nil],[.d (.bool v5.1.Neg),.d (.list (List.map (eInt .u32) v5.1.Limbs))],[.d (.bool v5.2.Neg),.d (.list (List.map (eInt .u32) v5.2.Limbs))]],[]⟩) (fun _=>rfl) ?_ ?_)) h
 refine .block (Mir.loop (fun v1 : ApiInt × ApiInt=>([U,U,U,U,.ptr 2 0,.ptr 3 0,.ptr 4 0] ++ us 54)) (fun v1=>⟨[[.d (.bool a0.Neg),.d (.list (List.map (eInt .u32) a0.Limbs))],[.d (.bool a1.Neg),.d (.list (List.map (eInt .u32) a1.Limbs))],[.d (.bool false),.nil],[.d (.bool v1.1.Neg),.d (.list (List.map (eInt .u32) v1.1.Limbs))],[.d (.bool v1.2.Neg),.d (.list (List.map (eInt .u32) v1.2.Limbs))]],[]⟩) (fun _=>rfl) (by simp only [seval,FMI,eInt]) (by simp only [seval,FMI,eInt]) fun v1=>.seqK (.sR fun e h=>?_))
 simp only [seval,EMI,fld_51_1,sz_49,ag_49,und_49,eInt]
 refine mU e (.cond rfl (fun h1=>?_) (fun h1=>?_)) h
 refine .skip (Mir.toK (.block (.seqK (.bind fun y3 h2=>.region fun e h=>?_))))
 simp only [seval,EMI,ag_51,sz_51,eInt]
 refine SpecS.by (it_word_spec h2) (by simp only [seval,FMI,eInt]) ?_
 simp only [seval,EMI,eInt]
 refine mU e (.seqK (.bind fun y4 h3=>.region fun e h=>?_)) h
 simp only [seval,EMI,ag_51,sz_51,eInt]
 refine SpecS.by (it_word_spec h3) (by simp only [seval,FMI,eInt]) ?_
 simp only [seval,EMI,eInt]
 refine mU e (.seqK (.seqK (.joinV ([U,U,U,U,.ptr 2 0,.ptr 3 0,.ptr 4 0,.d (.int .u64 y3.1),U,.d (.int .u64 y4.1),U,U,U,U,U,U,U,U,U,U,U,U,U,U,U,U,U,U,U,U,U,U,U,U,U,U,.d (.bool (y3.2 && y4.2))] ++ us 24) ⟨[[.d (.bool a0.Neg),.d (.list (List.map (eInt .u32) a0.Limbs))],[.d (.bool a1.Neg),.d (.list (List.map (eInt .u32) a1.Limbs))],[.d (.bool false),.nil],[.d (.bool v1.1.Neg),.d (.list (List.map (eInt .u32) v1.1.Limbs))],[.d (.bool v1.2.Neg),.d (.list (List.map (eInt .u32) v1.2.Limbs))]],[]⟩ rfl ?_ ?_))) h
 refine SWs.region ?_
 rcases Bool.eq_false_or_eq_true (y3.2) with h4 | h4
 simp only [seval,EMI,SL,PB,h4,eInt]
 simp only [seval,EMI,SL,PB,h4,eInt]
 refine Mir.toK (Mir.join (fun v4 : Unit=>([U,U,U,U,.ptr 2 0,.ptr 3 0,.ptr 4 0] ++ us 54)) (fun v4=>⟨[[.d (.bool a0.Neg),.d (.list (List.map (eInt .u32) a0.Limbs))],[.d (.bool a1.Neg),.d (.list (List.map (eInt .u32) a1.Limbs))],[.d (.bool false),.nil],[.d (.bool v1.1.Neg),.d (.list (List.map (eInt .u32) v1.1.Limbs))],[.d (.bool v1.2.Neg),.d (.list (List.map (eInt .u32) v1.2.Limbs))]],[]⟩) (fun _=>rfl) ?_ ?_)
 refine .cond rfl (fun h5=>?_) (fun h5=>?_)
 refine .seqK (Mir.joinO (fun v3 : Int=>([U,U,U,U,.ptr 2 0,U,U,.d (.int .u64 v3)] ++ us 53)) (fun v3=>⟨[[.d (.bool a0.Neg),.d (.list (List.map (eInt .u32) a0.Limbs))],[.d (.bool a1.Neg),.d (.list (List.map (eInt .u32) a1.Limbs))],[.d (.bool false),.nil],[.d (.bool v1.1.Neg),.d (.list (List.map (eInt .u32) v1.1.Limbs))],[.d (.bool v1.2.Neg),.d (.list (List.map (eInt .u32) v1.2.Limbs))]],[]⟩) (fun _=>rfl) ?_ ?_)
 refine .block (Mir.loop (fun v2 : Int × Int=>([U,U,U,U,.ptr 2 0,U,U,.d (.int .u64 v2.1),U,.d (.int .u64 v2.2)] ++ us 51)) (fun v2=>⟨[[.d (.bool a0.Neg),.d (.list (List.map (eInt .u32) a0.Limbs))],[.d (.bool a1.Neg),.d (.list (List.map (eInt .u32) a1.Limbs))],[.d (.bool false),.nil],[.d (.bool v1.1.Neg),.d (.list (List.map (eInt .u32) v1.1.Limbs))],[.d (.bool v1.2.Neg),.d (.list (List.map (eInt .u32) v1.2.Limbs))]],[]⟩) (fun _=>rfl) (by simp only [seval,FMI,eInt]) (by simp only [seval,FMI,eInt]) fun v2=>.seqK (.sR fun e h=>?_))
 simp only [seval,EMI,eInt]
 refine mU e (.cond rfl (fun h6=>?_) (fun h6=>?_)) h
 refine .skip (Mir.toK (.block (.guard fun q1=>?_)))
 replace q1 := ne_of q1
 refine .regionD [] (by kernel_rfl) fun e h=>?_
 simp only [seval,EMI,SB,q1,eInt]
 cases h
 simp only [seval,FMI,eInt,Tryz.results93,ag_51,sz_51]
 refine .exit fun e h=>?_
 cases h
 simp only [seval,FMI,eInt,Tryz.results93,ag_51,sz_51]
 intro v3
 refine Mir.toK (.seqK (.bind fun y5 h7=>.bind fun y6 h8=>.region fun e h=>?_))
 simp only [seval,EMI,eInt]
 refine SpecS.by (it_split_spec h7) (by simp only [seval,FMI,eInt]) ?_
 simp only [seval,EMI,eInt]
 refine SpecS.by (it_signed_spec h8) (by simp only [seval,FMI,eInt]) ?_
 simp only [seval,EMI,sz_51,eInt]
 refine mU e (.ret fun e h=>?_) h
 cases h
 simp only [seval,FMI,eInt,Tryz.results93,ag_51,sz_51]
 refine .skip fun e h=>?_
 cases h
 simp only [seval,FMI,eInt,Tryz.results93,ag_51,sz_51]
 intro v4
 refine Mir.toK (.seqK (.bind fun y7 h9=>.region fun e h=>?_))
 simp only [seval,EMI,fld_51_1,sz_49,ag_49,eInt]
 refine SpecS.by (it_divide_spec h9) (by simp only [seval,FMI,eInt]) ?_
 simp only [seval,EMI,eInt]
 refine mU e (.bind fun y8 h10=>.regionD [] (by kernel_rfl) fun e h=>?_) h
 simp only [seval,EMI,SB,ag_51,sz_51,eInt]
 refine Spec.by (it_signed_spec h10) (by simp only [seval,FMI,eInt]) ?_
 simp only [seval,EMI,SB,sz_51,eInt]
 cases h
 simp only [seval,FMI,eInt,Tryz.results93,ag_51,sz_51]
 refine .exit fun e h=>?_
 cases h
 simp only [seval,FMI,eInt,Tryz.results93,ag_51,sz_51]
 intro v5
 refine Mir.toK (.seqK (.guard fun q2=>.bind fun y9 h11=>.region fun e h=>?_))
 simp only [seval,EMI,fld_51_1,sz_49,ag_49,app_49,al_eInt,q2,eInt]
 refine SpecS.by (it_signed_spec h11) (by simp only [seval,FMI,eInt]) ?_
 simp only [seval,EMI,sz_51,eInt]
 refine mU e (.ret fun e h=>?_) h
 cases h
 simp only [seval,FMI,eInt,Tryz.results93,ag_51,sz_51]
def it_Cmp (a0 : ApiInt) (a1 : ApiInt) : Option Int := if (!(a0.Neg == a1.Neg)) = true then if a0.Neg = true then some (-1) else some 1 else if a0.Neg = true then bindO (it_compare a1.Limbs a0.Limbs) fun (y1 : Int) => some y1 else bindO (it_compare a0.Limbs a1.Limbs) fun (y2 : Int) => some y2
theorem it_Cmp_spec {a0 : ApiInt} {a1 : ApiInt} {y : Int} (h : it_Cmp a0 a1 = some y) : Spec gP 94 [.agg [.d (.bool a0.Neg), .d (.list (List.map (eInt .u32) a0.Limbs))], .agg [.d (.bool a1.Neg), .d (.list (List.map (eInt .u32) a1.Limbs))]] (.d (.int .i64 y)) := by
 refine spec_mir Tryz.func94 rfl (by kernel_rfl) (by kernel_rfl) (fun y : Int => .d (.int .i64 y)) ?_ h
 unfold it_Cmp
 simp only [List.replicate, List.length, nS, nA, Tryz.ntmps94, SV]
 refine .sR fun e h=>?_
 simp only [seval,EMI,eInt]
 refine mU e (.seqK (.sR fun e h=>?_)) h
 simp only [seval,EMI,fld_51_0,sz_4,ag_4,und_4,eInt]
 refine mU e (.cond rfl (fun hb4=>?_) (fun hb4=>?_)) h
 refine .seqK (.sR fun e h=>?_)
 simp only [seval,EMI,fld_51_0,sz_4,ag_4,eInt]
 refine mU e (.cond rfl (fun hb6=>?_) (fun hb6=>?_)) h
 refine .sR fun e h=>?_
 simp only [seval,EMI,eInt]
 refine mU e (.ret fun e h=>?_) h
 cases h
 simp only [seval,FMI,eInt,Tryz.results94]
 refine .skip (Mir.toK (.sR fun e h=>?_))
 simp only [seval,EMI,eInt]
 refine mU e (.ret fun e h=>?_) h
 cases h
 simp only [seval,FMI,eInt,Tryz.results94]
 refine .skip (Mir.toK (.seqK (.sR fun e h=>?_)))
 simp only [seval,EMI,fld_51_0,sz_4,ag_4,eInt]
 refine mU e (.cond rfl (fun hb9=>?_) (fun hb9=>?_)) h
 refine .seqK (.bind fun y1 hy10=>.region fun e h=>?_)
 simp only [seval,EMI,fld_51_1,sz_49,ag_49,eInt]
 refine SpecS.by (it_compare_spec hy10) (by simp only [seval,FMI,eInt]) ?_
 simp only [seval,EMI,eInt]
 refine mU e (.ret fun e h=>?_) h
 cases h
 simp only [seval,FMI,eInt,Tryz.results94]
 refine .skip (Mir.toK (.seqK (.bind fun y2 hy11=>.region fun e h=>?_)))
 simp only [seval,EMI,fld_51_1,sz_49,ag_49,eInt]
 refine SpecS.by (it_compare_spec hy11) (by simp only [seval,FMI,eInt]) ?_
 simp only [seval,EMI,eInt]
 refine mU e (.ret fun e h=>?_) h
 cases h
 simp only [seval,FMI,eInt,Tryz.results94]
def it_Sign (a0 : ApiInt) : Option Int := if a0.Neg = true then some (-1) else if (decide ((a0.Limbs.length : Int) > 0)) = true then some 1 else some 0
theorem it_Sign_spec {a0 : ApiInt} {y : Int} (h : it_Sign a0 = some y) : Spec gP 80 [.agg [.d (.bool a0.Neg), .d (.list (List.map (eInt .u32) a0.Limbs))]] (.d (.int .i64 y)) := by
 refine spec_mir Tryz.func80 rfl (by kernel_rfl) (by kernel_rfl) (fun y : Int => .d (.int .i64 y)) ?_ h
 unfold it_Sign
 simp only [List.replicate, List.length, nS, nA, Tryz.ntmps80, SV]
 refine .sR fun e h=>?_
 simp only [seval,EMI,eInt]
 refine mU e (.seqK (.block (.sR fun e h=>?_))) h
 simp only [seval,EMI,fld_51_0,sz_4,ag_4,eInt]
 refine mU e (.cond rfl (fun hb5=>?_) (fun hb5=>?_)) h
 refine .sR fun e h=>?_
 simp only [seval,EMI,eInt]
 refine mU e (.ret fun e h=>?_) h
 cases h
 simp only [seval,FMI,eInt,Tryz.results80]
 refine .sR fun e h=>?_
 simp only [seval,EMI,fld_51_1,sz_49,ag_49,und_49,eInt]
 refine mU e (.cond rfl (fun hb7=>?_) (fun hb7=>?_)) h
 refine .sR fun e h=>?_
 simp only [seval,EMI,eInt]
 refine mU e (.ret fun e h=>?_) h
 cases h
 simp only [seval,FMI,eInt,Tryz.results80]
 refine .skip (Mir.toB (Mir.toK (.sR fun e h=>?_)))
 simp only [seval,EMI,eInt]
 refine mU e (.ret fun e h=>?_) h
 cases h
 simp only [seval,FMI,eInt,Tryz.results80]
def r01_trim (a0 : (List Int)) : Option (List Int) := bindO (loopX (fun (v1 : (List Int)) => bindO (if (decide ((v1.length : Int) > 0)) = true then bindO (gt v1 (IntKind.i64.wrap ((v1.length : Int) - 1))) fun (e1 : Int) => some (e1 == 0) else some false) fun (v2 : Bool) => if v2 = true then bindO (cutT v1 (IntKind.i64.wrap ((v1.length : Int) - 1))) fun (s1 : (List Int)) => some (.go s1) else some (.ret v1)) fuel a0) fun (v3 : (List Int)) => some v3
theorem r01_trim_spec {a0 : (List Int)} {y : (List Int)} (h : r01_trim a0 = some y) : Spec gP 91 [.d (.list (List.map (eInt .u32) a0))] (.d (.list (List.map (eInt .u32) y))) := by
 refine spec_mir Tryz.func91 rfl (by kernel_rfl) (by kernel_rfl) (fun y : (List Int) => .d (.list (List.map (eInt .u32) y))) ?_ h
 unfold r01_trim
 simp only [List.replicate, List.length, nS, nA, Tryz.ntmps91, SV]
 refine .sR fun e h=>?_
 simp only [seval,EMI,eInt]
 refine mU e (.seqK (Mir.joinO (fun v3 : (List Int)=>([.d (.list (List.map (eInt .u32) v3))] ++ us 20)) (fun v3=>⟨[],[]⟩) (fun _=>rfl) ?_ ?_)) h
 refine .block (Mir.loop (fun v1 : (List Int)=>([.d (.list (List.map (eInt .u32) v1))] ++ us 20)) (fun v1=>⟨[],[]⟩) (fun _=>rfl) (by simp only [seval,FMI,eInt]) (by simp only [seval,FMI,eInt]) fun v1=>.seqK (.seqK (Mir.joinO (fun v2 : Bool=>([.d (.list (List.map (eInt .u32) v1)),U,U,U,U,U,U,U,U,U,U,U,U,U,.d (.bool v2)] ++ us 6)) (fun v2=>⟨[],[]⟩) (fun _=>rfl) ?_ ?_)))
 refine .ite (fun hb34=>?_) (fun hb34=>?_)
 refine .bind fun e1 q35=>?_
 replace q35 := gt_ok q35
 refine .region fun e h=>?_
 simp only [seval,EMI,und_49,sz_101,q35,ag_101,eInt,hb34]
 cases h
 simp only [seval,FMI,eInt,hb34]
 refine .region fun e h=>?_
 simp only [seval,EMI,und_49,eInt,hb34]
 cases h
 simp only [seval,FMI,eInt,hb34]
 intro v2
 refine Mir.toK (.cond rfl (fun hb37=>?_) (fun hb37=>?_))
 refine .skip (Mir.toK (.block (.bind fun s1 q38=>?_)))
 replace q38 := cutT_ok q38
 refine .region fun e h=>?_
 simp only [seval,EMI,und_49,sz_101,q38,Nat.le_refl,and_true,true_and,dm,tm,al_eInt,eInt]
 cases h
 simp only [seval,FMI,eInt,Tryz.results91]
 refine .exit fun e h=>?_
 cases h
 simp only [seval,FMI,eInt,Tryz.results91]
 intro v3
 refine Mir.toK (.sR fun e h=>?_)
 simp only [seval,EMI,eInt]
 refine mU e (.ret fun e h=>?_) h
 cases h
 simp only [seval,FMI,eInt,Tryz.results91]
def r01_plus (a0 : (List Int)) (a1 : (List Int)) : Option (List Int) := bindO (if (decide ((a0.length : Int) < (a1.length : Int))) = true then some (a1, a0) else some (a0, a1)) fun (v1 : (List Int) × (List Int)) => guardO (decide ((0 : Int) ≤ (IntKind.i64.wrap ((v1.1.length : Int) + 1)))) ( guardO (okLen (Int.toNat (IntKind.i64.wrap ((v1.1.length : Int) + 1)))) ( bindO (guardO (okIdx v1.1) ( rangeX (fun (i1 : Nat) (e1 : Int) (v2 : Int × (List Int)) => bindO (if (decide ((i1 : Int) < (v1.2.length : Int))) = true then bindO (gt v1.2 (i1 : Int)) fun (e2 : Int) => some (IntKind.u32.wrap ((IntKind.u32.wrap (v2.1 + e1)) + e2)) else some (IntKind.u32.wrap (v2.1 + e1))) fun (v3 : Int) => bindO (gt v2.2 (i1 : Int)) fun (e3 : Int) => some (.go (IntKind.u32.wrap (Int.tdiv v3 1000000000), v2.2.set (Int.toNat (i1 : Int)) (Int.tmod v3 1000000000)))) (fun (v2 : Int × (List Int)) => some (v2.1, v2.2)) v1.1 0 (0, List.replicate (Int.toNat (IntKind.i64.wrap ((v1.1.length : Int) + 1))) (0 : Int)))) fun (v4 : Int × (List Int)) => bindO (gt v4.2 (v1.1.length : Int)) fun (e4 : Int) => bindO (r01_trim (v4.2.set (Int.toNat (v1.1.length : Int)) v4.1)) fun (y1 : (List Int)) => some y1))
theorem r01_plus_spec {a0 : (List Int)} {a1 : (List Int)} {y : (List Int)} (h : r01_plus a0 a1 = some y) : Spec gP 148 [.d (.list (List.map (eInt .u32) a0)), .d (.list (List.map (eInt .u32) a1))] (.d (.list (List.map (eInt .u32) y))) := by
 refine spec_mir Tryz.func148 rfl (by kernel_rfl) (by kernel_rfl) (fun y : (List Int) => .d (.list (List.map (eInt .u32) y))) ?_ h
 unfold r01_plus
 simp only [List.replicate, List.length, nS, nA, Tryz.ntmps148, SV]
 refine .sR fun e h=>?_
 simp only [seval,EMI,eInt,rmap_set,spD]
 refine mU e (.seqK (.sR fun e h=>?_)) h
 simp only [seval,EMI,und_49,eInt,rmap_set,spD]
 refine mU e (Mir.joinO (fun v1 : (List Int) × (List Int)=>([.d (.list (List.map (eInt .u32) v1.1)),.d (.list (List.map (eInt .u32) v1.2))] ++ us 53)) (fun v1=>⟨[],[]⟩) (fun _=>rfl) ?_ ?_) h
 refine .cond rfl (fun hb2=>?_) (fun hb2=>?_)
 refine .region fun e h=>?_
 simp only [seval,EMI,eInt]
 cases h
 simp only [seval,FMI,eInt,Tryz.results148]
 refine .skip fun e h=>?_
 cases h
 simp only [seval,FMI,eInt,Tryz.results148]
 intro v1
 refine Mir.toK (.seqK (.guard fun q3=>.guard fun q4=>.regionW fun e h=>regW.alt 3 rfl ?_))
 simp only [seval,EMI,w_none,w_eq,und_49,eInt,rmap_set,spD]
 refine alt_makeM (en := (eInt .u32)) (z := 0) rfl rfl app_49 zero_101 rfl rfl (of_decide_eq_true q3) q4 (regW.of ?_)
 simp only [seval,EMI,w_none,w_eq,eInt,rmap_set,spD]
 refine mU e (.sR fun e h=>?_) h
 simp only [seval,EMI,eInt,rmap_set,spD]
 refine mU e (.seqK (.sR fun e h=>?_)) h
 simp only [seval,EMI,eInt,rmap_set,spD]
 refine mU e (Mir.joinO (fun v4 : Int × (List Int)=>([.d (.list (List.map (eInt .u32) v1.1)),U,U,U,U,.gr 0 0,.d (.int .u32 v4.1)] ++ us 48)) (fun v4=>⟨[[.rowc 101 0 (List.map (eInt .u32) v4.2)]],[]⟩) (fun _=>rfl) ?_ ?_) h
 refine .block (.guard fun q1=>Mir.range (fun (i1 : Nat) (v2 : Int × (List Int))=>([.d (.list (List.map (eInt .u32) v1.1)),.d (.list (List.map (eInt .u32) v1.2)),U,U,U,.gr 0 0,.d (.int .u32 v2.1),.d (.int .i64 (i1 : Int))] ++ us 47)) (fun i1 v2=>⟨[[.rowc 101 0 (List.map (eInt .u32) v2.2)]],[]⟩) q1 (fun _ _=>rfl) (by simp only [seval,FMI,eInt,rmap_set,spD,zNI]) (by simp only [seval,FMI,eInt,rmap_set,spD,zNI]) ?_ ?_)
 intro i1 e1 v2 q2
 refine .seqK (.sR fun e h=>?_)
 simp only [seval,EMI,und_49,q2,eInt,rmap_set,spD]
 refine mU e (.condT rfl (.skip (Mir.toK (.seqK (.block (.sR fun e h=>?_)))))) h
 simp only [seval,EMI,und_49,sz_101,q2,Int.toNat_natCast,ag_101,eInt,rmap_set,spD]
 refine mU e (.seqK (.sR fun e h=>?_)) h
 simp only [seval,EMI,und_49,eInt,rmap_set,spD]
 refine mU e (Mir.joinO (fun v3 : Int=>([.d (.list (List.map (eInt .u32) v1.1)),.d (.list (List.map (eInt .u32) v1.2)),U,U,U,.gr 0 0,.d (.int .u32 v3),.d (.int .i64 (i1 : Int))] ++ us 47)) (fun v3=>⟨[[.rowc 101 0 (List.map (eInt .u32) v2.2)]],[]⟩) (fun _=>rfl) ?_ ?_) h
 refine .cond rfl (fun h1=>?_) (fun h1=>?_)
 refine .bind fun e2 q5=>?_
 replace q5 := gt_ok q5
 simp only [Int.toNat_natCast] at q5
 refine .region fun e h=>?_
 simp only [seval,EMI,und_49,sz_101,q5,Int.toNat_natCast,ag_101,eInt,rmap_set,spD]
 cases h
 simp only [seval,FMI,eInt,rmap_set,spD,Tryz.results148]
 refine .skip fun e h=>?_
 cases h
 simp only [seval,FMI,eInt,rmap_set,spD,Tryz.results148]
 intro v3
 refine Mir.toK (.seqK (.bind fun e3 q6=>?_))
 replace q6 := gt_ok q6
 refine .regionW fun e h=>regW.alt 4 rfl ?_
 simp only [seval,EMI,w_none,w_eq,eInt,rmap_set,spD]
 refine alt_indexR rfl rfl rfl und_49 sz_101 (row_lo q6.1) (row_hi q6.2 q6.1) (regW.alt 0 rfl ?_)
 simp only [seval,EMI,w_none,w_eq,und_49,sz_101,eInt,rmap_set,spD]
 refine alt_storeR rfl rfl (row_at q6.2) rfl rfl sz_101 rfl (Nat.le_of_ble_eq_true rfl) (regW.of ?_)
 simp only [seval,EMI,w_none,w_eq,sz_101,eInt,rmap_set,spD]
 refine mU e (.region fun e h=>?_) h
 simp only [seval,EMI,eInt,rmap_set,spD]
 refine mU e (.region fun e h=>?_) h
 simp only [seval,EMI,eInt,rmap_set,spD]
 cases h
 simp only [seval,FMI,eInt,rmap_set,spD,Tryz.results148,q2]
 intro v2 q7
 refine .seqK (.sR fun e h=>?_)
 simp only [seval,EMI,und_49,q7,eInt,rmap_set,spD]
 refine mU e (.condF rfl (.exit fun e h=>?_)) h
 cases h
 simp only [seval,FMI,eInt,rmap_set,spD,Tryz.results148]
 intro v4
 refine Mir.toK (.seqK (.bind fun e4 q8=>?_))
 replace q8 := gt_ok q8
 refine .regionW fun e h=>regW.alt 4 rfl ?_
 simp only [seval,EMI,w_none,w_eq,und_49,eInt,rmap_set,spD]
 refine alt_indexR rfl rfl rfl und_49 sz_101 (row_lo q8.1) (row_hi q8.2 q8.1) (regW.alt 0 rfl ?_)
 simp only [seval,EMI,w_none,w_eq,und_49,sz_101,eInt,rmap_set,spD]
 refine alt_storeR rfl rfl (row_at q8.2) rfl rfl sz_101 rfl (Nat.le_of_ble_eq_true rfl) (regW.of ?_)
 simp only [seval,EMI,w_none,w_eq,sz_101,eInt,rmap_set,spD]
 refine mU e (.seqK (.frz 0 rfl ?_)) h
 simp only [seval,us_0,us_s,xCA,xNA,and_self,and_true,true_and,and_false,false_and,SZ]
 refine .bind fun y1 h2=>.region fun e h=>?_
 simp only [seval,EMI,eInt,rmap_set,spD]
 refine SpecS.by (r01_trim_spec h2) (by simp only [seval,FMI,eInt,rmap_set,spD]) ?_
 simp only [seval,EMI,eInt,rmap_set,spD]
 refine mU e (.ret fun e h=>?_) h
 cases h
 simp only [seval,FMI,eInt,rmap_set,spD,Tryz.results148]
def r01_signed (a0 : Bool) (a1 : (List Int)) : Option ApiInt := bindO (r01_trim a1) fun (y1 : (List Int)) => some (ApiInt.mk (a0 && (decide ((y1.length : Int) > 0))) y1)
theorem r01_signed_spec {a0 : Bool} {a1 : (List Int)} {y : ApiInt} (h : r01_signed a0 a1 = some y) : Spec gP 63 [.d (.bool a0), .d (.list (List.map (eInt .u32) a1))] (.agg [.d (.bool y.Neg), .d (.list (List.map (eInt .u32) y.Limbs))]) := by
 refine spec_mir Tryz.func63 rfl (by kernel_rfl) (by kernel_rfl) (fun y : ApiInt => .agg [.d (.bool y.Neg), .d (.list (List.map (eInt .u32) y.Limbs))]) ?_ h
 unfold r01_signed
 simp only [List.replicate, List.length, nS, nA, Tryz.ntmps63, SV]
 refine .sR fun e h=>?_
 simp only [seval,EMI,zero_51,eInt]
 refine mU e (.seqK (.bind fun y1 hy1=>.region fun e h=>?_)) h
 simp only [seval,EMI,eInt]
 refine SpecS.by (r01_trim_spec hy1) (by simp only [seval,FMI,eInt]) ?_
 simp only [seval,EMI,eInt]
 refine mU e (.seqK (.joinV ([U,U,U,U,.ptr 0 0] ++ us 10) ⟨[[.d (.bool (a0 && (decide ((y1.length : Int) > 0)))),.d (.list (List.map (eInt .u32) y1))]],[]⟩ rfl ?_ ?_)) h
 refine SWs.region ?_
 rcases Bool.eq_false_or_eq_true (a0) with hb2 | hb2
 simp only [seval,EMI,SL,PB,und_49,zero_51,pl_51,sz_51,hb2,eInt]
 simp only [seval,EMI,SL,PB,zero_51,pl_51,sz_51,hb2,eInt]
 refine Mir.toK (.ret fun e h=>?_)
 cases h
 simp only [seval,FMI,eInt,Tryz.results63,ag_51,sz_51]
def r01_compare (a0 : (List Int)) (a1 : (List Int)) : Option Int := if ((a0.length : Int) != (a1.length : Int)) = true then if (decide ((a0.length : Int) < (a1.length : Int))) = true then some (-1) else some 1 else bindX (loopX (fun (v1 : Int) => if (decide (v1 ≥ 0)) = true then bindO (gt a0 v1) fun (e1 : Int) => bindO (gt a1 v1) fun (e2 : Int) => if (decide (e1 < e2)) = true then some (.ret (.ret (-1))) else if (decide (e1 > e2)) = true then some (.ret (.ret 1)) else some (.go (IntKind.i64.wrap (v1 - 1))) else some (.ret (.go ()))) fuel (IntKind.i64.wrap ((a0.length : Int) - 1))) fun (v2 : Unit) => some 0
theorem r01_compare_spec {a0 : (List Int)} {a1 : (List Int)} {y : Int} (h : r01_compare a0 a1 = some y) : Spec gP 72 [.d (.list (List.map (eInt .u32) a0)), .d (.list (List.map (eInt .u32) a1))] (.d (.int .i64 y)) := by
 refine spec_mir Tryz.func72 rfl (by kernel_rfl) (by kernel_rfl) (fun y : Int => .d (.int .i64 y)) ?_ h
 unfold r01_compare
 simp only [List.replicate, List.length, nS, nA, Tryz.ntmps72, SV]
 refine .sR fun e h=>?_
 simp only [seval,EMI,eInt]
 refine mU e (.seqK (.sR fun e h=>?_)) h
 simp only [seval,EMI,und_49,eInt]
 refine mU e (.cond rfl (fun hb4=>?_) (fun hb4=>?_)) h
 refine .seqK (.sR fun e h=>?_)
 simp only [seval,EMI,und_49,eInt]
 refine mU e (.cond rfl (fun hb6=>?_) (fun hb6=>?_)) h
 refine .sR fun e h=>?_
 simp only [seval,EMI,eInt]
 refine mU e (.ret fun e h=>?_) h
 cases h
 simp only [seval,FMI,eInt,Tryz.results72]
 refine .skip (Mir.toK (.sR fun e h=>?_))
 simp only [seval,EMI,eInt]
 refine mU e (.ret fun e h=>?_) h
 cases h
 simp only [seval,FMI,eInt,Tryz.results72]
 refine .skip (Mir.toK (.seqK (.sR fun e h=>?_)))
 simp only [seval,EMI,und_49,eInt]
 refine mU e (Mir.join (fun v2 : Unit=>(us 41)) (fun v2=>⟨[],[]⟩) (fun _=>rfl) ?_ ?_) h
 refine .block (Mir.loop (fun v1 : Int=>([.d (.list (List.map (eInt .u32) a0)),.d (.list (List.map (eInt .u32) a1)),U,U,U,.d (.int .i64 v1)] ++ us 35)) (fun v1=>⟨[],[]⟩) (fun _=>rfl) (by simp only [seval,FMI,eInt]) (by simp only [seval,FMI,eInt]) fun v1=>.seqK (.sR fun e h=>?_))
 simp only [seval,EMI,eInt]
 refine mU e (.cond rfl (fun hb73=>?_) (fun hb73=>?_)) h
 refine .skip (Mir.toK (.seqK (.block (.seqK (.seqK (.bind fun e1 q79=>?_))))))
 replace q79 := gt_ok q79
 refine .bind fun e2 q80=>?_
 replace q80 := gt_ok q80
 refine .regionD [] (by kernel_rfl) fun e h=>?_
 simp only [seval,EMI,SB,und_49,sz_101,q79,ag_101,q80,eInt]
 refine mU e (.cond rfl (fun hb82=>?_) (fun hb82=>?_)) h
 refine .sR fun e h=>?_
 simp only [seval,EMI,eInt]
 refine mU e (.ret fun e h=>?_) h
 cases h
 simp only [seval,FMI,eInt,Tryz.results72]
 refine .skip (Mir.toK (.seqK (.regionD [] (by kernel_rfl) fun e h=>?_)))
 simp only [seval,EMI,SB,und_49,sz_101,q79,ag_101,q80,eInt]
 refine mU e (.cond rfl (fun hb84=>?_) (fun hb84=>?_)) h
 refine .sR fun e h=>?_
 simp only [seval,EMI,eInt]
 refine mU e (.ret fun e h=>?_) h
 cases h
 simp only [seval,FMI,eInt,Tryz.results72]
 refine .skip (Mir.toB (Mir.toK (.region fun e h=>?_)))
 simp only [seval,EMI,eInt]
 cases h
 simp only [seval,FMI,eInt,Tryz.results72]
 refine .exit fun e h=>?_
 cases h
 simp only [seval,FMI,eInt,Tryz.results72]
 intro v2
 refine Mir.toK (.sR fun e h=>?_)
 simp only [seval,EMI,eInt]
 refine mU e (.ret fun e h=>?_) h
 cases h
 simp only [seval,FMI,eInt,Tryz.results72]
def r01_minus (a0 : (List Int)) (a1 : (List Int)) : Option (List Int) := guardO (decide ((0 : Int) ≤ (a0.length : Int))) ( guardO (okLen (Int.toNat (a0.length : Int))) ( bindO (guardO (okIdx a0) ( rangeX (fun (i1 : Nat) (e1 : Int) (v1 : Int × (List Int)) => bindO (if (decide ((i1 : Int) < (a1.length : Int))) = true then bindO (gt a1 (i1 : Int)) fun (e2 : Int) => some (IntKind.u32.wrap ((IntKind.u32.wrap ((IntKind.u32.wrap (e1 + 1000000000)) - v1.1)) - e2)) else some (IntKind.u32.wrap ((IntKind.u32.wrap (e1 + 1000000000)) - v1.1))) fun (v2 : Int) => bindO (if (decide (v2 ≥ 1000000000)) = true then some (0, IntKind.u32.wrap (v2 - 1000000000)) else some (1, v2)) fun (v3 : Int × Int) => bindO (gt v1.2 (i1 : Int)) fun (e3 : Int) => some (.go (v3.1, v1.2.set (Int.toNat (i1 : Int)) v3.2))) (fun (v1 : Int × (List Int)) => some v1.2) a0 0 (0, List.replicate (Int.toNat (a0.length : Int)) (0 : Int)))) fun (v4 : (List Int)) => bindO (r01_trim v4) fun (y1 : (List Int)) => some y1))
theorem r01_minus_spec {a0 : (List Int)} {a1 : (List Int)} {y : (List Int)} (h : r01_minus a0 a1 = some y) : Spec gP 147 [.d (.list (List.map (eInt .u32) a0)), .d (.list (List.map (eInt .u32) a1))] (.d (.list (List.map (eInt .u32) y))) := by
 refine spec_mir Tryz.func147 rfl (by kernel_rfl) (by kernel_rfl) (fun y : (List Int) => .d (.list (List.map (eInt .u32) y))) ?_ h
 unfold r01_minus
 simp only [List.replicate, List.length, nS, nA, Tryz.ntmps147, SV]
 refine .sR fun e h=>?_
 simp only [seval,EMI,eInt,rmap_set,spD]
 refine mU e (.seqK (.guard fun q1=>.guard fun q2=>.regionW fun e h=>regW.alt 2 rfl ?_)) h
 simp only [seval,EMI,w_none,w_eq,und_49,eInt,rmap_set,spD]
 refine alt_makeM (en := (eInt .u32)) (z := 0) rfl rfl app_49 zero_101 rfl rfl (of_decide_eq_true q1) q2 (regW.of ?_)
 simp only [seval,EMI,w_none,w_eq,eInt,rmap_set,spD]
 refine mU e (.sR fun e h=>?_) h
 simp only [seval,EMI,eInt,rmap_set,spD]
 refine mU e (.seqK (.sR fun e h=>?_)) h
 simp only [seval,EMI,eInt,rmap_set,spD]
 refine mU e (Mir.joinO (fun v4 : (List Int)=>([U,U,U,U,U,.gr 0 0] ++ us 39)) (fun v4=>⟨[[.rowc 101 0 (List.map (eInt .u32) v4)]],[]⟩) (fun _=>rfl) ?_ ?_) h
 refine .block (.guard fun q3=>Mir.range (fun (i1 : Nat) (v1 : Int × (List Int))=>([.d (.list (List.map (eInt .u32) a0)),.d (.list (List.map (eInt .u32) a1)),U,U,U,.gr 0 0,.d (.int .u32 v1.1),.d (.int .i64 (i1 : Int))] ++ us 37)) (fun i1 v1=>⟨[[.rowc 101 0 (List.map (eInt .u32) v1.2)]],[]⟩) q3 (fun _ _=>rfl) (by simp only [seval,FMI,eInt,rmap_set,spD,zNI]) (by simp only [seval,FMI,eInt,rmap_set,spD,zNI]) ?_ ?_)
 intro i1 e1 v1 q4
 refine .seqK (.sR fun e h=>?_)
 simp only [seval,EMI,und_49,q4,eInt,rmap_set,spD]
 refine mU e (.condT rfl (.skip (Mir.toK (.seqK (.block (.sR fun e h=>?_)))))) h
 simp only [seval,EMI,und_49,sz_101,q4,Int.toNat_natCast,ag_101,eInt,rmap_set,spD]
 refine mU e (.seqK (.sR fun e h=>?_)) h
 simp only [seval,EMI,und_49,eInt,rmap_set,spD]
 refine mU e (Mir.joinO (fun v2 : Int=>([.d (.list (List.map (eInt .u32) a0)),.d (.list (List.map (eInt .u32) a1)),U,U,U,.gr 0 0,U,.d (.int .i64 (i1 : Int)),.d (.int .u32 v2)] ++ us 36)) (fun v2=>⟨[[.rowc 101 0 (List.map (eInt .u32) v1.2)]],[]⟩) (fun _=>rfl) ?_ ?_) h
 refine .cond rfl (fun h1=>?_) (fun h1=>?_)
 refine .bind fun e2 q5=>?_
 replace q5 := gt_ok q5
 simp only [Int.toNat_natCast] at q5
 refine .region fun e h=>?_
 simp only [seval,EMI,und_49,sz_101,q5,Int.toNat_natCast,ag_101,eInt,rmap_set,spD]
 cases h
 simp only [seval,FMI,eInt,rmap_set,spD,Tryz.results147]
 refine .skip fun e h=>?_
 cases h
 simp only [seval,FMI,eInt,rmap_set,spD,Tryz.results147]
 intro v2
 refine Mir.toK (.sR fun e h=>?_)
 simp only [seval,EMI,eInt,rmap_set,spD]
 refine mU e (.seqK (.sR fun e h=>?_)) h
 simp only [seval,EMI,eInt,rmap_set,spD]
 refine mU e (Mir.joinO (fun v3 : Int × Int=>([.d (.list (List.map (eInt .u32) a0)),.d (.list (List.map (eInt .u32) a1)),U,U,U,.gr 0 0,.d (.int .u32 v3.1),.d (.int .i64 (i1 : Int)),.d (.int .u32 v3.2)] ++ us 36)) (fun v3=>⟨[[.rowc 101 0 (List.map (eInt .u32) v1.2)]],[]⟩) (fun _=>rfl) ?_ ?_) h
 refine .cond rfl (fun h2=>?_) (fun h2=>?_)
 refine .region fun e h=>?_
 simp only [seval,EMI,eInt,rmap_set,spD]
 cases h
 simp only [seval,FMI,eInt,rmap_set,spD,Tryz.results147]
 refine .skip fun e h=>?_
 cases h
 simp only [seval,FMI,eInt,rmap_set,spD,Tryz.results147]
 intro v3
 refine Mir.toK (.bind fun e3 q6=>?_)
 replace q6 := gt_ok q6
 refine .regionW fun e h=>regW.alt 3 rfl ?_
 simp only [seval,EMI,w_none,w_eq,eInt,rmap_set,spD]
 refine alt_indexR rfl rfl rfl und_49 sz_101 (row_lo q6.1) (row_hi q6.2 q6.1) (regW.alt 0 rfl ?_)
 simp only [seval,EMI,w_none,w_eq,und_49,sz_101,eInt,rmap_set,spD]
 refine alt_storeR rfl rfl (row_at q6.2) rfl rfl sz_101 rfl (Nat.le_of_ble_eq_true rfl) (regW.of ?_)
 simp only [seval,EMI,w_none,w_eq,sz_101,eInt,rmap_set,spD]
 refine mU e (.region fun e h=>?_) h
 simp only [seval,EMI,eInt,rmap_set,spD]
 cases h
 simp only [seval,FMI,eInt,rmap_set,spD,Tryz.results147,q4]
 intro v1 q7
 refine .seqK (.sR fun e h=>?_)
 simp only [seval,EMI,und_49,q7,eInt,rmap_set,spD]
 refine mU e (.condF rfl (.exit fun e h=>?_)) h
 cases h
 simp only [seval,FMI,eInt,rmap_set,spD,Tryz.results147]
 intro v4
 refine Mir.toK (.seqK (.frz 0 rfl ?_))
 simp only [seval,us_0,us_s,xCA,xNA,and_self,and_true,true_and,and_false,false_and,SZ]
 refine .bind fun y1 h3=>.region fun e h=>?_
 simp only [seval,EMI,eInt,rmap_set,spD]
 refine SpecS.by (r01_trim_spec h3) (by simp only [seval,FMI,eInt,rmap_set,spD]) ?_
 simp only [seval,EMI,eInt,rmap_set,spD]
 refine mU e (.ret fun e h=>?_) h
 cases h
 simp only [seval,FMI,eInt,rmap_set,spD,Tryz.results147]
def r01_Add (a0 : ApiInt) (a1 : ApiInt) : Option ApiInt := if (a0.Neg == a1.Neg) = true then bindO (r01_plus a0.Limbs a1.Limbs) fun (y1 : (List Int)) => bindO (r01_signed a0.Neg y1) fun (y2 : ApiInt) => some y2 else bindO (r01_compare a0.Limbs a1.Limbs) fun (y3 : Int) => if (decide (y3 ≥ 0)) = true then bindO (r01_minus a0.Limbs a1.Limbs) fun (y4 : (List Int)) => bindO (r01_signed a0.Neg y4) fun (y5 : ApiInt) => some y5 else bindO (r01_minus a1.Limbs a0.Limbs) fun (y6 : (List Int)) => bindO (r01_signed a1.Neg y6) fun (y7 : ApiInt) => some y7
theorem r01_Add_spec {a0 : ApiInt} {a1 : ApiInt} {y : ApiInt} (h : r01_Add a0 a1 = some y) : Spec gP 130 [.agg [.d (.bool a0.Neg), .d (.list (List.map (eInt .u32) a0.Limbs))], .agg [.d (.bool a1.Neg), .d (.list (List.map (eInt .u32) a1.Limbs))]] (.agg [.d (.bool y.Neg), .d (.list (List.map (eInt .u32) y.Limbs))]) := by
 refine spec_mir Tryz.func130 rfl (by kernel_rfl) (by kernel_rfl) (fun y : ApiInt => .agg [.d (.bool y.Neg), .d (.list (List.map (eInt .u32) y.Limbs))]) ?_ h
 unfold r01_Add
 simp only [List.replicate, List.length, nS, nA, Tryz.ntmps130, SV]
 refine .sR fun e h=>?_
 simp only [seval,EMI,zero_51,eInt]
 refine mU e (.seqK (.sR fun e h=>?_)) h
 simp only [seval,EMI,fld_51_0,sz_4,ag_4,und_4,eInt]
 refine mU e (.cond rfl (fun hb4=>?_) (fun hb4=>?_)) h
 refine .seqK (.bind fun y1 hy5=>.bind fun y2 hy6=>.regionD [] (by kernel_rfl) fun e h=>?_)
 simp only [seval,EMI,SB,fld_51_0,sz_4,ag_4,fld_51_1,sz_49,ag_49,eInt]
 refine Spec.by (r01_plus_spec hy5) (by simp only [seval,FMI,eInt]) ?_
 simp only [seval,EMI,SB,eInt]
 refine Spec.by (r01_signed_spec hy6) (by simp only [seval,FMI,eInt]) ?_
 simp only [seval,EMI,SB,sz_51,eInt]
 refine mU e (.ret fun e h=>?_) h
 cases h
 simp only [seval,FMI,eInt,Tryz.results130,ag_51,sz_51]
 refine .skip (Mir.toK (.seqK (.seqK (.bind fun y3 hy7=>.region fun e h=>?_))))
 simp only [seval,EMI,fld_51_1,sz_49,ag_49,eInt]
 refine SpecS.by (r01_compare_spec hy7) (by simp only [seval,FMI,eInt]) ?_
 simp only [seval,EMI,eInt]
 refine mU e (.cond rfl (fun hb11=>?_) (fun hb11=>?_)) h
 refine .seqK (.bind fun y4 hy12=>.bind fun y5 hy13=>.regionD [] (by kernel_rfl) fun e h=>?_)
 simp only [seval,EMI,SB,fld_51_0,sz_4,ag_4,fld_51_1,sz_49,ag_49,eInt]
 refine Spec.by (r01_minus_spec hy12) (by simp only [seval,FMI,eInt]) ?_
 simp only [seval,EMI,SB,eInt]
 refine Spec.by (r01_signed_spec hy13) (by simp only [seval,FMI,eInt]) ?_
 simp only [seval,EMI,SB,sz_51,eInt]
 refine mU e (.ret fun e h=>?_) h
 cases h
 simp only [seval,FMI,eInt,Tryz.results130,ag_51,sz_51]
 refine .skip (Mir.toK (.seqK (.bind fun y6 hy14=>.bind fun y7 hy15=>.regionD [] (by kernel_rfl) fun e h=>?_)))
 simp only [seval,EMI,SB,fld_51_0,sz_4,ag_4,fld_51_1,sz_49,ag_49,eInt]
 refine Spec.by (r01_minus_spec hy14) (by simp only [seval,FMI,eInt]) ?_
 simp only [seval,EMI,SB,eInt]
 refine Spec.by (r01_signed_spec hy15) (by simp only [seval,FMI,eInt]) ?_
 simp only [seval,EMI,SB,sz_51,eInt]
 refine mU e (.ret fun e h=>?_) h
 cases h
 simp only [seval,FMI,eInt,Tryz.results130,ag_51,sz_51]
def r01_Neg (a0 : ApiInt) : Option ApiInt := bindO (r01_signed (!a0.Neg) a0.Limbs) fun (y1 : ApiInt) => some y1
theorem r01_Neg_spec {a0 : ApiInt} {y : ApiInt} (h : r01_Neg a0 = some y) : Spec gP 100 [.agg [.d (.bool a0.Neg), .d (.list (List.map (eInt .u32) a0.Limbs))]] (.agg [.d (.bool y.Neg), .d (.list (List.map (eInt .u32) y.Limbs))]) := by
 refine spec_mir Tryz.func100 rfl (by kernel_rfl) (by kernel_rfl) (fun y : ApiInt => .agg [.d (.bool y.Neg), .d (.list (List.map (eInt .u32) y.Limbs))]) ?_ h
 unfold r01_Neg
 simp only [List.replicate, List.length, nS, nA, Tryz.ntmps100, SV]
 refine .sR fun e h=>?_
 simp only [seval,EMI,zero_51,eInt]
 refine mU e (.seqK (.bind fun y1 hy1=>.region fun e h=>?_)) h
 simp only [seval,EMI,fld_51_0,sz_4,ag_4,fld_51_1,sz_49,ag_49,eInt]
 refine SpecS.by (r01_signed_spec hy1) (by simp only [seval,FMI,eInt]) ?_
 simp only [seval,EMI,sz_51,eInt]
 refine mU e (.ret fun e h=>?_) h
 cases h
 simp only [seval,FMI,eInt,Tryz.results100,ag_51,sz_51]
def r01_Sub (a0 : ApiInt) (a1 : ApiInt) : Option ApiInt := bindO (r01_Neg a1) fun (y1 : ApiInt) => bindO (r01_Add a0 y1) fun (y2 : ApiInt) => some y2
theorem r01_Sub_spec {a0 : ApiInt} {a1 : ApiInt} {y : ApiInt} (h : r01_Sub a0 a1 = some y) : Spec gP 129 [.agg [.d (.bool a0.Neg), .d (.list (List.map (eInt .u32) a0.Limbs))], .agg [.d (.bool a1.Neg), .d (.list (List.map (eInt .u32) a1.Limbs))]] (.agg [.d (.bool y.Neg), .d (.list (List.map (eInt .u32) y.Limbs))]) := by
 refine spec_mir Tryz.func129 rfl (by kernel_rfl) (by kernel_rfl) (fun y : ApiInt => .agg [.d (.bool y.Neg), .d (.list (List.map (eInt .u32) y.Limbs))]) ?_ h
 unfold r01_Sub
 simp only [List.replicate, List.length, nS, nA, Tryz.ntmps129, SV]
 refine .sR fun e h=>?_
 simp only [seval,EMI,zero_51,eInt]
 refine mU e (.seqK (.bind fun y1 hy1=>.bind fun y2 hy2=>.regionD [] (by kernel_rfl) fun e h=>?_)) h
 simp only [seval,EMI,SB,ag_51,sz_51,eInt]
 refine Spec.by (r01_Neg_spec hy1) (by simp only [seval,FMI,eInt]) ?_
 simp only [seval,EMI,SB,eInt]
 refine Spec.by (r01_Add_spec hy2) (by simp only [seval,FMI,eInt]) ?_
 simp only [seval,EMI,SB,sz_51,eInt]
 refine mU e (.ret fun e h=>?_) h
 cases h
 simp only [seval,FMI,eInt,Tryz.results129,ag_51,sz_51]
def r01_times (a0 : (List Int)) (a1 : (List Int)) : Option (List Int) := guardO (decide ((0 : Int) ≤ (IntKind.i64.wrap ((a0.length : Int) + (a1.length : Int))))) ( guardO (okLen (Int.toNat (IntKind.i64.wrap ((a0.length : Int) + (a1.length : Int))))) ( bindO (guardO (okIdx a0) ( rangeX (fun (i1 : Nat) (e1 : Int) (v1 : (List Int)) => bindO (bindO (guardO (okIdx a1) ( rangeX (fun (i2 : Nat) (e2 : Int) (v2 : Int × (List Int)) => bindO (gt v2.2 (IntKind.i64.wrap ((i1 : Int) + (i2 : Int)))) fun (e3 : Int) => bindO (gt v2.2 (IntKind.i64.wrap ((i1 : Int) + (i2 : Int)))) fun (e4 : Int) => some (.go (IntKind.u64.wrap (Int.tdiv (IntKind.u64.wrap ((IntKind.u64.wrap (v2.1 + (IntKind.u64.wrap e3))) + (IntKind.u64.wrap ((IntKind.u64.wrap e1) * (IntKind.u64.wrap e2))))) 1000000000), v2.2.set (Int.toNat (IntKind.i64.wrap ((i1 : Int) + (i2 : Int)))) (IntKind.u32.wrap (Int.tmod (IntKind.u64.wrap ((IntKind.u64.wrap (v2.1 + (IntKind.u64.wrap e3))) + (IntKind.u64.wrap ((IntKind.u64.wrap e1) * (IntKind.u64.wrap e2))))) 1000000000))))) (fun (v2 : Int × (List Int)) => some (v2.1, v2.2)) a1 0 (0, v1))) fun (v3 : Int × (List Int)) => bindO (gt v3.2 (IntKind.i64.wrap ((i1 : Int) + (a1.length : Int)))) fun (e5 : Int) => some (v3.2.set (Int.toNat (IntKind.i64.wrap ((i1 : Int) + (a1.length : Int)))) (IntKind.u32.wrap v3.1))) fun (v4 : (List Int)) => some (.go v4)) (fun (v1 : (List Int)) => some v1) a0 0 (List.replicate (Int.toNat (IntKind.i64.wrap ((a0.length : Int) + (a1.length : Int)))) (0 : Int)))) fun (v5 : (List Int)) => bindO (r01_trim v5) fun (y1 : (List Int)) => some y1))
theorem r01_times_spec {a0 : (List Int)} {a1 : (List Int)} {y : (List Int)} (h : r01_times a0 a1 = some y) : Spec gP 103 [.d (.list (List.map (eInt .u32) a0)), .d (.list (List.map (eInt .u32) a1))] (.d (.list (List.map (eInt .u32) y))) := by
 refine spec_mir Tryz.func103 rfl (by kernel_rfl) (by kernel_rfl) (fun y : (List Int) => .d (.list (List.map (eInt .u32) y))) ?_ h
 unfold r01_times
 simp only [List.replicate, List.length, nS, nA, Tryz.ntmps103, SV]
 refine .sR fun e h=>?_
 simp only [seval,EMI,eInt,rmap_set,spD]
 refine mU e (.seqK (.guard fun q1=>.guard fun q2=>.regionW fun e h=>regW.alt 5 rfl ?_)) h
 simp only [seval,EMI,w_none,w_eq,und_49,eInt,rmap_set,spD]
 refine alt_makeM (en := (eInt .u32)) (z := 0) rfl rfl app_49 zero_101 rfl rfl (of_decide_eq_true q1) q2 (regW.of ?_)
 simp only [seval,EMI,w_none,w_eq,eInt,rmap_set,spD]
 refine mU e (.seqK (.sR fun e h=>?_)) h
 simp only [seval,EMI,eInt,rmap_set,spD]
 refine mU e (Mir.joinO (fun v5 : (List Int)=>([U,U,U,U,U,.gr 0 0] ++ us 62)) (fun v5=>⟨[[.rowc 101 0 (List.map (eInt .u32) v5)]],[]⟩) (fun _=>rfl) ?_ ?_) h
 refine .block (.guard fun q3=>Mir.range (fun (i1 : Nat) (v1 : (List Int))=>([.d (.list (List.map (eInt .u32) a0)),.d (.list (List.map (eInt .u32) a1)),U,U,U,.gr 0 0,.d (.int .i64 (i1 : Int))] ++ us 61)) (fun i1 v1=>⟨[[.rowc 101 0 (List.map (eInt .u32) v1)]],[]⟩) q3 (fun _ _=>rfl) (by simp only [seval,FMI,eInt,rmap_set,spD,zNI]) (by simp only [seval,FMI,eInt,rmap_set,spD,zNI]) ?_ ?_)
 intro i1 e1 v1 q4
 refine .seqK (.sR fun e h=>?_)
 simp only [seval,EMI,und_49,q4,eInt,rmap_set,spD]
 refine mU e (.condT rfl (.skip (Mir.toK (.seqK (Mir.joinO (fun v4 : (List Int)=>([.d (.list (List.map (eInt .u32) a0)),.d (.list (List.map (eInt .u32) a1)),U,U,U,.gr 0 0,.d (.int .i64 (i1 : Int))] ++ us 61)) (fun v4=>⟨[[.rowc 101 0 (List.map (eInt .u32) v4)]],[]⟩) (fun _=>rfl) ?_ ?_))))) h
 refine .block (.sR fun e h=>?_)
 simp only [seval,EMI,eInt,rmap_set,spD]
 refine mU e (.seqK (.sR fun e h=>?_)) h
 simp only [seval,EMI,eInt,rmap_set,spD]
 refine mU e (Mir.joinO (fun v3 : Int × (List Int)=>([.d (.list (List.map (eInt .u32) a0)),.d (.list (List.map (eInt .u32) a1)),U,U,U,.gr 0 0,.d (.int .i64 (i1 : Int)),.d (.int .u64 v3.1)] ++ us 60)) (fun v3=>⟨[[.rowc 101 0 (List.map (eInt .u32) v3.2)]],[]⟩) (fun _=>rfl) ?_ ?_) h
 refine .block (.guard fun q5=>Mir.range (fun (i2 : Nat) (v2 : Int × (List Int))=>([.d (.list (List.map (eInt .u32) a0)),.d (.list (List.map (eInt .u32) a1)),U,U,U,.gr 0 0,.d (.int .i64 (i1 : Int)),.d (.int .u64 v2.1),.d (.int .i64 (i2 : Int))] ++ us 59)) (fun i2 v2=>⟨[[.rowc 101 0 (List.map (eInt .u32) v2.2)]],[]⟩) q5 (fun _ _=>rfl) (by simp only [seval,FMI,eInt,rmap_set,spD,zNI]) (by simp only [seval,FMI,eInt,rmap_set,spD,zNI]) ?_ ?_)
 intro i2 e2 v2 q6
 refine .seqK (.sR fun e h=>?_)
 simp only [seval,EMI,und_49,q6,eInt,rmap_set,spD]
 refine mU e (.condT rfl (.skip (Mir.toK (.seqK (.block (.seqK (.bind fun e3 q7=>?_))))))) h
 replace q7 := gt_ok q7
 refine Mir.regionS (by kernel_rfl) fun e h=>stW.alt 5 rfl (by kernel_rfl) ?_
 simp only [seval,EMI,w_none,w_eq,eInt,rmap_set,spD]
 refine st_indexR rfl rfl rfl und_49 sz_101 (row_lo q7.1) (row_hi q7.2 q7.1) (stW.alt 0 rfl (by kernel_rfl) ?_)
 simp only [seval,EMI,w_none,w_eq,und_49,sz_101,eInt,rmap_set,spD]
 refine st_loadR rfl rfl (row_at q7.2) (by simp only [↓reduceIte,nA,nL,pt_eq,ag_101,sz_101,dc_cons,dc_nil,SV,eInt] <;> rfl) (stW.of (by kernel_rfl) ?_)
 simp only [seval,EMI,w_none,w_eq,ag_101,sz_101,und_101,und_104,und_49,q4,Int.toNat_natCast,q6,eInt,rmap_set,spD]
 refine mU e (.seqK (.bind fun e4 q8=>?_)) h
 replace q8 := gt_ok q8
 refine .regionW fun e h=>regW.alt 7 rfl ?_
 simp only [seval,EMI,w_none,w_eq,und_104,und_101,eInt,rmap_set,spD]
 refine alt_indexR rfl rfl rfl und_49 sz_101 (row_lo q8.1) (row_hi q8.2 q8.1) (regW.alt 0 rfl ?_)
 simp only [seval,EMI,w_none,w_eq,und_49,sz_101,eInt,rmap_set,spD]
 refine alt_storeR rfl rfl (row_at q8.2) rfl rfl sz_101 rfl (Nat.le_of_ble_eq_true rfl) (regW.of ?_)
 simp only [seval,EMI,w_none,w_eq,sz_101,eInt,rmap_set,spD]
 refine mU e (.region fun e h=>?_) h
 simp only [seval,EMI,eInt,rmap_set,spD]
 refine mU e (.region fun e h=>?_) h
 simp only [seval,EMI,eInt,rmap_set,spD]
 cases h
 simp only [seval,FMI,eInt,rmap_set,spD,Tryz.results103,q6]
 intro v2 q9
 refine .seqK (.sR fun e h=>?_)
 simp only [seval,EMI,und_49,q9,eInt,rmap_set,spD]
 refine mU e (.condF rfl (.exit fun e h=>?_)) h
 cases h
 simp only [seval,FMI,eInt,rmap_set,spD,Tryz.results103]
 intro v3
 refine Mir.toK (.bind fun e5 q10=>?_)
 replace q10 := gt_ok q10
 refine .regionW fun e h=>regW.alt 7 rfl ?_
 simp only [seval,EMI,w_none,w_eq,und_49,und_104,und_101,eInt,rmap_set,spD]
 refine alt_indexR rfl rfl rfl und_49 sz_101 (row_lo q10.1) (row_hi q10.2 q10.1) (regW.alt 0 rfl ?_)
 simp only [seval,EMI,w_none,w_eq,und_49,sz_101,eInt,rmap_set,spD]
 refine alt_storeR rfl rfl (row_at q10.2) rfl rfl sz_101 rfl (Nat.le_of_ble_eq_true rfl) (regW.of ?_)
 simp only [seval,EMI,w_none,w_eq,sz_101,eInt,rmap_set,spD]
 cases h
 simp only [seval,FMI,eInt,rmap_set,spD,Tryz.results103]
 intro v4
 refine Mir.toK (.region fun e h=>?_)
 simp only [seval,EMI,eInt,rmap_set,spD]
 cases h
 simp only [seval,FMI,eInt,rmap_set,spD,Tryz.results103,q4]
 intro v1 q11
 refine .seqK (.sR fun e h=>?_)
 simp only [seval,EMI,und_49,q11,eInt,rmap_set,spD]
 refine mU e (.condF rfl (.exit fun e h=>?_)) h
 cases h
 simp only [seval,FMI,eInt,rmap_set,spD,Tryz.results103]
 intro v5
 refine Mir.toK (.seqK (.frz 0 rfl ?_))
 simp only [seval,us_0,us_s,xCA,xNA,and_self,and_true,true_and,and_false,false_and,SZ]
 refine .bind fun y1 h1=>.region fun e h=>?_
 simp only [seval,EMI,eInt,rmap_set,spD]
 refine SpecS.by (r01_trim_spec h1) (by simp only [seval,FMI,eInt,rmap_set,spD]) ?_
 simp only [seval,EMI,eInt,rmap_set,spD]
 refine mU e (.ret fun e h=>?_) h
 cases h
 simp only [seval,FMI,eInt,rmap_set,spD,Tryz.results103]
def r01_Mul (a0 : ApiInt) (a1 : ApiInt) : Option ApiInt := bindO (r01_times a0.Limbs a1.Limbs) fun (y1 : (List Int)) => bindO (r01_signed (!(a0.Neg == a1.Neg)) y1) fun (y2 : ApiInt) => some y2
theorem r01_Mul_spec {a0 : ApiInt} {a1 : ApiInt} {y : ApiInt} (h : r01_Mul a0 a1 = some y) : Spec gP 71 [.agg [.d (.bool a0.Neg), .d (.list (List.map (eInt .u32) a0.Limbs))], .agg [.d (.bool a1.Neg), .d (.list (List.map (eInt .u32) a1.Limbs))]] (.agg [.d (.bool y.Neg), .d (.list (List.map (eInt .u32) y.Limbs))]) := by
 refine spec_mir Tryz.func71 rfl (by kernel_rfl) (by kernel_rfl) (fun y : ApiInt => .agg [.d (.bool y.Neg), .d (.list (List.map (eInt .u32) y.Limbs))]) ?_ h
 unfold r01_Mul
 simp only [List.replicate, List.length, nS, nA, Tryz.ntmps71, SV]
 refine .sR fun e h=>?_
 simp only [seval,EMI,zero_51,eInt]
 refine mU e (.seqK (.bind fun y1 hy1=>.bind fun y2 hy2=>.regionD [] (by kernel_rfl) fun e h=>?_)) h
 simp only [seval,EMI,SB,fld_51_0,sz_4,ag_4,und_4,fld_51_1,sz_49,ag_49,eInt]
 refine Spec.by (r01_times_spec hy1) (by simp only [seval,FMI,eInt]) ?_
 simp only [seval,EMI,SB,eInt]
 refine Spec.by (r01_signed_spec hy2) (by simp only [seval,FMI,eInt]) ?_
 simp only [seval,EMI,SB,sz_51,eInt]
 refine mU e (.ret fun e h=>?_) h
 cases h
 simp only [seval,FMI,eInt,Tryz.results71,ag_51,sz_51]
def r01_short (a0 : (List Int)) : Option Int := bindO (loopX (fun (v1 : Int × Int) => if (decide (v1.2 ≥ 0)) = true then bindO (gt a0 v1.2) fun (e1 : Int) => some (.go (IntKind.u64.wrap ((IntKind.u64.wrap (v1.1 * 1000000000)) + (IntKind.u64.wrap e1)), IntKind.i64.wrap (v1.2 - 1))) else some (.ret v1.1)) fuel (0, IntKind.i64.wrap ((a0.length : Int) - 1))) fun (v2 : Int) => some v2
theorem r01_short_spec {a0 : (List Int)} {y : Int} (h : r01_short a0 = some y) : Spec gP 65 [.d (.list (List.map (eInt .u32) a0))] (.d (.int .u64 y)) := by
 refine spec_mir Tryz.func65 rfl (by kernel_rfl) (by kernel_rfl) (fun y : Int => .d (.int .u64 y)) ?_ h
 unfold r01_short
 simp only [List.replicate, List.length, nS, nA, Tryz.ntmps65, SV]
 refine .sR fun e h=>?_
 simp only [seval,EMI,eInt]
 refine mU e (.sR fun e h=>?_) h
 simp only [seval,EMI,eInt]
 refine mU e (.seqK (.sR fun e h=>?_)) h
 simp only [seval,EMI,und_49,eInt]
 refine mU e (Mir.joinO (fun v2 : Int=>([U,U,U,.d (.int .u64 v2)] ++ us 17)) (fun v2=>⟨[],[]⟩) (fun _=>rfl) ?_ ?_) h
 refine .block (Mir.loop (fun v1 : Int × Int=>([.d (.list (List.map (eInt .u32) a0)),U,U,.d (.int .u64 v1.1),.d (.int .i64 v1.2)] ++ us 16)) (fun v1=>⟨[],[]⟩) (fun _=>rfl) (by simp only [seval,FMI,eInt]) (by simp only [seval,FMI,eInt]) fun v1=>.seqK (.sR fun e h=>?_))
 simp only [seval,EMI,eInt]
 refine mU e (.cond rfl (fun hb22=>?_) (fun hb22=>?_)) h
 refine .skip (Mir.toK (.seqK (.block (.bind fun e1 q24=>?_))))
 replace q24 := gt_ok q24
 refine .region fun e h=>?_
 simp only [seval,EMI,und_49,sz_101,q24,ag_101,und_101,und_104,eInt]
 refine mU e (.region fun e h=>?_) h
 simp only [seval,EMI,eInt]
 cases h
 simp only [seval,FMI,eInt,Tryz.results65]
 refine .exit fun e h=>?_
 cases h
 simp only [seval,FMI,eInt,Tryz.results65]
 intro v2
 refine Mir.toK (.sR fun e h=>?_)
 simp only [seval,EMI,eInt]
 refine mU e (.ret fun e h=>?_) h
 cases h
 simp only [seval,FMI,eInt,Tryz.results65]
def r01_limbs (a0 : Int) : Option (List Int) := bindO (loopX (fun (v1 : Int × (List Int)) => if (decide (v1.1 > 0)) = true then guardO (okLen (v1.2.length + 1)) ( some (.go (IntKind.u64.wrap (Int.tdiv v1.1 1000000000), v1.2 ++ [IntKind.u32.wrap (Int.tmod v1.1 1000000000)]))) else some (.ret v1.2)) fuel (a0, [])) fun (v2 : (List Int)) => some v2
theorem r01_limbs_spec {a0 : Int} {y : (List Int)} (h : r01_limbs a0 = some y) : Spec gP 74 [.d (.int .u64 a0)] (.d (.list (List.map (eInt .u32) y))) := by
 refine spec_mir Tryz.func74 rfl (by kernel_rfl) (by kernel_rfl) (fun y : (List Int) => .d (.list (List.map (eInt .u32) y))) ?_ h
 unfold r01_limbs
 simp only [List.replicate, List.length, nS, nA, Tryz.ntmps74, SV]
 refine .sR fun e h=>?_
 simp only [seval,EMI,eInt]
 refine mU e (.sR fun e h=>?_) h
 simp only [seval,EMI,eInt]
 refine mU e (.seqK (.gh [.slot 3 101] rfl (Mir.joinO (fun v2 : (List Int)=>([U,U,U,.own 0 (List.map (eInt .u32) v2)] ++ us 11)) (fun v2=>⟨[],[(101,v2.length)]⟩) (fun _=>rfl) ?_ ?_))) h
 refine .block (Mir.loop (fun v1 : Int × (List Int)=>([.d (.int .u64 v1.1),U,U,.own 0 (List.map (eInt .u32) v1.2)] ++ us 11)) (fun v1=>⟨[],[(101,v1.2.length)]⟩) (fun _=>rfl) (by simp only [seval,FMI,eInt]) (by simp only [seval,FMI,eInt]) fun v1=>.seqK (.sR fun e h=>?_))
 simp only [seval,EMI,eInt]
 refine mU e (.cond rfl (fun hb25=>?_) (fun hb25=>?_)) h
 refine .skip (Mir.toK (.block (.seqK (.guard fun q26=>.region fun e h=>?_))))
 simp only [seval,EMI,und_104,und_101,und_49,sz_101,zero_101,(oL 1),app_49,al_eInt,q26,eInt]
 refine mU e (.region fun e h=>?_) h
 simp only [seval,EMI,eInt]
 cases h
 simp only [seval,FMI,eInt,Tryz.results74]
 refine .exit fun e h=>?_
 cases h
 simp only [seval,FMI,eInt,Tryz.results74]
 intro v2
 refine Mir.toK (.sR fun e h=>?_)
 simp only [seval,EMI,eInt]
 refine mU e (.ret fun e h=>?_) h
 cases h
 simp only [seval,FMI,eInt,Tryz.results74]
def r01_by (a0 : (List Int)) (a1 : Int) : Option (List Int) := bindO (r01_trim [a1]) fun (y1 : (List Int)) => bindO (r01_times a0 y1) fun (y2 : (List Int)) => some y2
theorem r01_by_spec {a0 : (List Int)} {a1 : Int} {y : (List Int)} (h : r01_by a0 a1 = some y) : Spec gP 146 [.d (.list (List.map (eInt .u32) a0)), .d (.int .u32 a1)] (.d (.list (List.map (eInt .u32) y))) := by
 refine spec_mir Tryz.func146 rfl (by kernel_rfl) (by kernel_rfl) (fun y : (List Int) => .d (.list (List.map (eInt .u32) y))) ?_ h
 unfold r01_by
 simp only [List.replicate, List.length, nS, nA, Tryz.ntmps146, SV]
 refine .sR fun e h=>?_
 simp only [seval,EMI,eInt]
 refine mU e (.seqK (.bind fun y1 hy1=>.bind fun y2 hy2=>.region fun e h=>?_)) h
 simp only [seval,EMI,und_49,sz_101,zero_101,(oL 1),eInt]
 refine SpecS.by (r01_trim_spec hy1) (by simp only [seval,FMI,eInt]) ?_
 simp only [seval,EMI,eInt]
 refine SpecS.by (r01_times_spec hy2) (by simp only [seval,FMI,eInt]) ?_
 simp only [seval,EMI,eInt]
 refine mU e (.ret fun e h=>?_) h
 cases h
 simp only [seval,FMI,eInt,Tryz.results146]
def r01_parts (a0 : (List Int)) (a1 : (List Int)) : Option ((List Int) × (List Int)) := if ((decide ((a0.length : Int) ≤ 2)) && (decide ((a1.length : Int) ≤ 2))) = true then bindO (r01_short a0) fun (y1 : Int) => bindO (r01_short a1) fun (y2 : Int) => guardO (!(y2 == 0)) ( bindO (r01_limbs (IntKind.u64.wrap (Int.tdiv y1 y2))) fun (y3 : (List Int)) => guardO (!(y2 == 0)) ( bindO (r01_limbs (Int.tmod y1 y2)) fun (y4 : (List Int)) => some (y3, y4))) else bindO (gt a1 (IntKind.i64.wrap ((a1.length : Int) - 1))) fun (e1 : Int) => guardO (!((IntKind.u64.wrap ((IntKind.u64.wrap e1) + 1)) == 0)) ( bindO (r01_by a1 (IntKind.u32.wrap (IntKind.u64.wrap (Int.tdiv 1000000000 (IntKind.u64.wrap ((IntKind.u64.wrap e1) + 1)))))) fun (y5 : (List Int)) => bindO (gt y5 (IntKind.i64.wrap ((y5.length : Int) - 1))) fun (e2 : Int) => guardO (decide ((0 : Int) ≤ (IntKind.i64.wrap ((a0.length : Int) + 1)))) ( guardO (okLen (Int.toNat (IntKind.i64.wrap ((a0.length : Int) + 1)))) ( bindO (r01_by a0 (IntKind.u32.wrap (IntKind.u64.wrap (Int.tdiv 1000000000 (IntKind.u64.wrap ((IntKind.u64.wrap e1) + 1)))))) fun (y6 : (List Int)) => guardO (decide ((0 : Int) ≤ (0 : Int) ∧ (0 : Int) ≤ (y6.length : Int) ∧ (y6.length : Int) ≤ (((List.replicate (Int.toNat (IntKind.i64.wrap ((a0.length : Int) + 1))) (0 : Int)).length : Nat) : Int))) ( bindO (loopX (fun (v1 : (List Int) × Int × (List Int)) => if (decide (v1.2.1 ≥ 0)) = true then bindO (bindO (gt y6 v1.2.1) fun (e3 : Int) => guardO (okLen (1 + v1.1.length)) ( bindO (r01_trim ([e3] ++ v1.1)) fun (y7 : (List Int)) => bindO (if (decide ((y7.length : Int) > (y5.length : Int))) = true then bindO (gt y7 (y5.length : Int)) fun (e4 : Int) => some (IntKind.u64.wrap ((IntKind.u64.wrap e4) * 1000000000)) else some 0) fun (v2 : Int) => bindO (if (decide ((y7.length : Int) ≥ (y5.length : Int))) = true then bindO (gt y7 (IntKind.i64.wrap ((y5.length : Int) - 1))) fun (e5 : Int) => some (IntKind.u64.wrap (v2 + (IntKind.u64.wrap e5))) else some v2) fun (v3 : Int) => guardO (!((IntKind.u64.wrap e2) == 0)) ( bindO (if (decide ((IntKind.u64.wrap (Int.tdiv v3 (IntKind.u64.wrap e2))) > 999999999)) = true then some 999999999 else some (IntKind.u64.wrap (Int.tdiv v3 (IntKind.u64.wrap e2)))) fun (v4 : Int) => bindO (r01_by y5 (IntKind.u32.wrap v4)) fun (y8 : (List Int)) => bindO (loopX (fun (v5 : Int × (List Int)) => bindO (r01_compare v5.2 y7) fun (y9 : Int) => if (decide (y9 > 0)) = true then bindO (r01_minus v5.2 y5) fun (y10 : (List Int)) => some (.go (IntKind.u64.wrap (v5.1 - 1), y10)) else some (.ret (v5.1, v5.2))) fuel (v4, y8)) fun (v6 : Int × (List Int)) => bindO (r01_minus y7 v6.2) fun (y11 : (List Int)) => guardO (decide (0 ≤ v1.2.1 ∧ v1.2.1 < (((Int.toNat (y6.length : Int)) - 0 : Nat) : Int))) ( bindO (gt v1.2.2 ((0 + Int.toNat v1.2.1 : Nat) : Int)) fun (e6 : Int) => some (y11, v1.2.2.set ((0 + Int.toNat v1.2.1)) (IntKind.u32.wrap v6.1)))))) fun (v7 : (List Int) × (List Int)) => some (.go (v7.1, IntKind.i64.wrap (v1.2.1 - 1), v7.2)) else some (.ret (v1.1, v1.2.2))) fuel ([], IntKind.i64.wrap ((y6.length : Int) - 1), List.replicate (Int.toNat (IntKind.i64.wrap ((a0.length : Int) + 1))) (0 : Int))) fun (v8 : (List Int) × (List Int)) => guardO (decide ((0 : Int) ≤ (v8.1.length : Int))) ( guardO (okLen (Int.toNat (v8.1.length : Int))) ( bindO (loopX (fun (v9 : Int × Int × (List Int)) => if (decide (v9.2.1 ≥ 0)) = true then bindO (gt v8.1 v9.2.1) fun (e7 : Int) => guardO (!((IntKind.u64.wrap (IntKind.u32.wrap (IntKind.u64.wrap (Int.tdiv 1000000000 (IntKind.u64.wrap ((IntKind.u64.wrap e1) + 1)))))) == 0)) ( bindO (gt v9.2.2 v9.2.1) fun (e8 : Int) => guardO (!((IntKind.u64.wrap (IntKind.u32.wrap (IntKind.u64.wrap (Int.tdiv 1000000000 (IntKind.u64.wrap ((IntKind.u64.wrap e1) + 1)))))) == 0)) ( some (.go (Int.tmod (IntKind.u64.wrap ((IntKind.u64.wrap (v9.1 * 1000000000)) + (IntKind.u64.wrap e7))) (IntKind.u64.wrap (IntKind.u32.wrap (IntKind.u64.wrap (Int.tdiv 1000000000 (IntKind.u64.wrap ((IntKind.u64.wrap e1) + 1)))))), IntKind.i64.wrap (v9.2.1 - 1), v9.2.2.set (Int.toNat v9.2.1) (IntKind.u32.wrap (IntKind.u64.wrap (Int.tdiv (IntKind.u64.wrap ((IntKind.u64.wrap (v9.1 * 1000000000)) + (IntKind.u64.wrap e7))) (IntKind.u64.wrap (IntKind.u32.wrap (IntKind.u64.wrap (Int.tdiv 1000000000 (IntKind.u64.wrap ((IntKind.u64.wrap e1) + 1))))))))))))) else some (.ret v9.2.2)) fuel (0, IntKind.i64.wrap ((v8.1.length : Int) - 1), List.replicate (Int.toNat (v8.1.length : Int)) (0 : Int))) fun (v10 : (List Int)) => guardO (decide (0 + ((Int.toNat (y6.length : Int)) - 0) ≤ v8.2.length)) ( bindO (r01_trim (List.take ((Int.toNat (y6.length : Int)) - 0) (List.drop (0) v8.2))) fun (y12 : (List Int)) => bindO (r01_trim v10) fun (y13 : (List Int)) => some (y12, y13))))))))
theorem r01_parts_spec {a0 : (List Int)} {a1 : (List Int)} {y : (List Int) × (List Int)} (h : r01_parts a0 a1 = some y) : Spec gP 128 [.d (.list (List.map (eInt .u32) a0)), .d (.list (List.map (eInt .u32) a1))] (.tuple [.d (.list (List.map (eInt .u32) y.1)), .d (.list (List.map (eInt .u32) y.2))]) := by
 refine spec_mir Tryz.func128 rfl (by kernel_rfl) (by kernel_rfl) (fun y : (List Int) × (List Int) => .tuple [.d (.list (List.map (eInt .u32) y.1)), .d (.list (List.map (eInt .u32) y.2))]) ?_ h
 unfold r01_parts
 simp only [List.replicate, List.length, nS, nA, Tryz.ntmps128, SV]
 refine .sR fun e h=>?_
 simp only [seval,EMI,eInt,rmap_set,spD]
 refine mU e (.seqK (.seqK (.joinV ([.d (.list (List.map (eInt .u32) a0)),.d (.list (List.map (eInt .u32) a1)),U,U,U,U,U,U,U,U,U,U,U,U,U,U,U,U,U,U,U,U,U,U,U,U,U,U,.d (.bool ((decide ((a0.length : Int) ≤ 2)) && (decide ((a1.length : Int) ≤ 2))))] ++ us 144) ⟨[],[]⟩ rfl ?_ ?_))) h
 refine SWs.region ?_
 rcases Bool.eq_false_or_eq_true (decide ((a0.length : Int) ≤ 2)) with hb1 | hb1
 simp only [seval,EMI,SL,PB,und_49,hb1,eInt,rmap_set,spD]
 simp only [seval,EMI,SL,PB,und_49,hb1,eInt,rmap_set,spD]
 refine Mir.toK (.cond rfl (fun hb9=>?_) (fun hb9=>?_))
 refine .seqK (.bind fun y1 hy10=>.bind fun y2 hy11=>.region fun e h=>?_)
 simp only [seval,EMI,eInt,rmap_set,spD]
 refine SpecS.by (r01_short_spec hy10) (by simp only [seval,FMI,eInt,rmap_set,spD]) ?_
 simp only [seval,EMI,eInt,rmap_set,spD]
 refine SpecS.by (r01_short_spec hy11) (by simp only [seval,FMI,eInt,rmap_set,spD]) ?_
 simp only [seval,EMI,eInt,rmap_set,spD]
 refine mU e (.seqK (.guard fun q12=>?_)) h
 replace q12 := ne_of q12
 refine .bind fun y3 hy13=>.guard fun q14=>?_
 replace q14 := ne_of q14
 refine .bind fun y4 hy15=>.regionD [] (by kernel_rfl) fun e h=>?_
 simp only [seval,EMI,SB,q12,eInt,rmap_set,spD]
 refine Spec.by (r01_limbs_spec hy13) (by simp only [seval,FMI,eInt,rmap_set,spD]) ?_
 simp only [seval,EMI,SB,q14,eInt,rmap_set,spD]
 refine Spec.by (r01_limbs_spec hy15) (by simp only [seval,FMI,eInt,rmap_set,spD]) ?_
 simp only [seval,EMI,SB,eInt,rmap_set,spD]
 refine mU e (.ret fun e h=>?_) h
 cases h
 simp only [seval,FMI,eInt,rmap_set,spD,Tryz.results128]
 refine .skip (Mir.toK (.seqK (.bind fun e1 q16=>?_)))
 replace q16 := gt_ok q16
 refine .guard fun q17=>?_
 replace q17 := ne_of q17
 refine .region fun e h=>?_
 simp only [seval,EMI,und_49,sz_101,q16,ag_101,und_101,und_104,q17,eInt,rmap_set,spD]
 refine mU e (.seqK (.bind fun y5 hy18=>.region fun e h=>?_)) h
 simp only [seval,EMI,eInt,rmap_set,spD]
 refine SpecS.by (r01_by_spec hy18) (by simp only [seval,FMI,eInt,rmap_set,spD]) ?_
 simp only [seval,EMI,eInt,rmap_set,spD]
 refine mU e (.seqK (.bind fun e2 q19=>?_)) h
 replace q19 := gt_ok q19
 refine .region fun e h=>?_
 simp only [seval,EMI,und_49,sz_101,q19,ag_101,und_101,und_104,eInt,rmap_set,spD]
 refine mU e (.sR fun e h=>?_) h
 simp only [seval,EMI,eInt,rmap_set,spD]
 refine mU e (.seqK (.guard fun q20=>.guard fun q21=>.regionW fun e h=>regW.alt 3 rfl ?_)) h
 simp only [seval,EMI,w_none,w_eq,und_49,eInt,rmap_set,spD]
 refine alt_makeM (en := (eInt .u32)) (z := 0) rfl rfl app_49 zero_101 rfl rfl (of_decide_eq_true q20) q21 (regW.of ?_)
 simp only [seval,EMI,w_none,w_eq,eInt,rmap_set,spD]
 refine mU e (.seqK (.bind fun y6 hy22=>.region fun e h=>?_)) h
 simp only [seval,EMI,eInt,rmap_set,spD]
 refine SpecS.by (r01_by_spec hy22) (by simp only [seval,FMI,eInt,rmap_set,spD]) ?_
 simp only [seval,EMI,eInt,rmap_set,spD]
 refine mU e (.seqK (.guard fun q23=>?_)) h
 replace q23 := gsl_of q23
 refine .regionW fun e h=>regW.alt 3 rfl ?_
 simp only [seval,EMI,w_none,w_eq,und_49,eInt,rmap_set,spD]
 refine alt_sliceR (l := 0) (h := Int.toNat (y6.length : Int)) rfl rfl und_49 sz_101 (by simp only [seval,EMI,bd_some,bd_none,Option.map_some,Option.map_none,lm,q23.1,q23.2.1]) (by simp only [seval,EMI,bd_some,bd_none,Option.map_some,Option.map_none,lm,q23.1,q23.2.1]) (Nat.zero_le _) (by rw [lm]; exact q23.2.2.2) (regW.of ?_)
 simp only [seval,EMI,w_none,w_eq,und_49,eInt,rmap_set,spD]
 refine mU e (.seqK (.sR fun e h=>?_)) h
 simp only [seval,EMI,und_49,eInt,rmap_set,spD]
 refine mU e (Mir.joinO (fun v8 : (List Int) × (List Int)=>([U,U,U,U,U,U,U,U,.d (.int .u32 (IntKind.u32.wrap (IntKind.u64.wrap (Int.tdiv 1000000000 (IntKind.u64.wrap ((IntKind.u64.wrap e1) + 1)))))),U,U,.d (.list (List.map (eInt .u32) v8.1)),.gs 0 0 0 ((Int.toNat (y6.length : Int)) - 0)] ++ us 160)) (fun v8=>⟨[[.rowc 101 0 (List.map (eInt .u32) v8.2)]],[]⟩) (fun _=>rfl) ?_ ?_) h
 refine .block (Mir.loop (fun v1 : (List Int) × Int × (List Int)=>([U,U,U,U,U,U,U,U,.d (.int .u32 (IntKind.u32.wrap (IntKind.u64.wrap (Int.tdiv 1000000000 (IntKind.u64.wrap ((IntKind.u64.wrap e1) + 1)))))),.d (.list (List.map (eInt .u32) y5)),.d (.int .u64 (IntKind.u64.wrap e2)),.d (.list (List.map (eInt .u32) v1.1)),.gs 0 0 0 ((Int.toNat (y6.length : Int)) - 0),.d (.list (List.map (eInt .u32) y6)),.d (.int .i64 v1.2.1)] ++ us 158)) (fun v1=>⟨[[.rowc 101 0 (List.map (eInt .u32) v1.2.2)]],[]⟩) (fun _=>rfl) (by simp only [seval,FMI,eInt,rmap_set,spD]) (by simp only [seval,FMI,eInt,rmap_set,spD]) fun v1=>.seqK (.sR fun e h=>?_))
 simp only [seval,EMI,eInt,rmap_set,spD]
 refine mU e (.cond rfl (fun h2=>?_) (fun h2=>?_)) h
 refine .skip (Mir.toK (.seqK (Mir.joinO (fun v7 : (List Int) × (List Int)=>([U,U,U,U,U,U,U,U,.d (.int .u32 (IntKind.u32.wrap (IntKind.u64.wrap (Int.tdiv 1000000000 (IntKind.u64.wrap ((IntKind.u64.wrap e1) + 1)))))),.d (.list (List.map (eInt .u32) y5)),.d (.int .u64 (IntKind.u64.wrap e2)),.d (.list (List.map (eInt .u32) v7.1)),.gs 0 0 0 ((Int.toNat (y6.length : Int)) - 0),.d (.list (List.map (eInt .u32) y6)),.d (.int .i64 v1.2.1)] ++ us 158)) (fun v7=>⟨[[.rowc 101 0 (List.map (eInt .u32) v7.2)]],[]⟩) (fun _=>rfl) ?_ ?_)))
 refine .block (.seqK (.bind fun e3 q1=>?_))
 replace q1 := gt_ok q1
 refine .guard fun q2=>.bind fun y7 h3=>.regionW fun e h=>regW.alt 4 rfl ?_
 simp only [seval,EMI,w_none,w_eq,und_49,sz_101,q1,ag_101,eInt,rmap_set,spD]
 refine alt_litOwn (es := List.map (eInt .u32) [e3]) app_49 (by simp only [seval,EMI,und_49,sz_101,zero_101,(oL 1),eInt,rmap_set,spD]) (by decide) (regW.of ?_)
 simp only [seval,EMI,w_none,w_eq,und_49,sz_101,zero_101,(oL 1),app_49,al_eInt,q2,eInt,rmap_set,spD]
 refine SpecS.by (r01_trim_spec h3) (by simp only [seval,FMI,eInt,rmap_set,spD]) ?_
 simp only [seval,EMI,w_none,w_eq,eInt,rmap_set,spD]
 refine mU e (.sR fun e h=>?_) h
 simp only [seval,EMI,eInt,rmap_set,spD]
 refine mU e (.seqK (.sR fun e h=>?_)) h
 simp only [seval,EMI,und_49,eInt,rmap_set,spD]
 refine mU e (Mir.joinO (fun v2 : Int=>([U,U,U,U,U,U,U,U,.d (.int .u32 (IntKind.u32.wrap (IntKind.u64.wrap (Int.tdiv 1000000000 (IntKind.u64.wrap ((IntKind.u64.wrap e1) + 1)))))),.d (.list (List.map (eInt .u32) y5)),.d (.int .u64 (IntKind.u64.wrap e2)),.d (.list (List.map (eInt .u32) y7)),.gs 0 0 0 ((Int.toNat (y6.length : Int)) - 0),.d (.list (List.map (eInt .u32) y6)),.d (.int .i64 v1.2.1),.d (.int .u64 v2)] ++ us 157)) (fun v2=>⟨[[.rowc 101 0 (List.map (eInt .u32) v1.2.2)]],[(101,1 + v1.1.length)]⟩) (fun _=>rfl) ?_ ?_) h
 refine .cond rfl (fun h4=>?_) (fun h4=>?_)
 refine .bind fun e4 q3=>?_
 replace q3 := gt_ok q3
 refine .region fun e h=>?_
 simp only [seval,EMI,und_49,sz_101,q3,ag_101,und_101,und_104,eInt,rmap_set,spD]
 cases h
 simp only [seval,FMI,eInt,rmap_set,spD,Tryz.results128]
 refine .skip fun e h=>?_
 cases h
 simp only [seval,FMI,eInt,rmap_set,spD,Tryz.results128]
 intro v2
 refine Mir.toK (.seqK (.sR fun e h=>?_))
 simp only [seval,EMI,und_49,eInt,rmap_set,spD]
 refine mU e (Mir.joinO (fun v3 : Int=>([U,U,U,U,U,U,U,U,.d (.int .u32 (IntKind.u32.wrap (IntKind.u64.wrap (Int.tdiv 1000000000 (IntKind.u64.wrap ((IntKind.u64.wrap e1) + 1)))))),.d (.list (List.map (eInt .u32) y5)),.d (.int .u64 (IntKind.u64.wrap e2)),.d (.list (List.map (eInt .u32) y7)),.gs 0 0 0 ((Int.toNat (y6.length : Int)) - 0),.d (.list (List.map (eInt .u32) y6)),.d (.int .i64 v1.2.1),.d (.int .u64 v3)] ++ us 157)) (fun v3=>⟨[[.rowc 101 0 (List.map (eInt .u32) v1.2.2)]],[(101,1 + v1.1.length)]⟩) (fun _=>rfl) ?_ ?_) h
 refine .cond rfl (fun h5=>?_) (fun h5=>?_)
 refine .bind fun e5 q4=>?_
 replace q4 := gt_ok q4
 refine .region fun e h=>?_
 simp only [seval,EMI,und_49,sz_101,q4,ag_101,und_101,und_104,eInt,rmap_set,spD]
 cases h
 simp only [seval,FMI,eInt,rmap_set,spD,Tryz.results128]
 refine .skip fun e h=>?_
 cases h
 simp only [seval,FMI,eInt,rmap_set,spD,Tryz.results128]
 intro v3
 refine Mir.toK (.seqK (.guard fun q5=>?_))
 replace q5 := ne_of q5
 refine .region fun e h=>?_
 simp only [seval,EMI,q5,eInt,rmap_set,spD]
 refine mU e (.seqK (.sR fun e h=>?_)) h
 simp only [seval,EMI,eInt,rmap_set,spD]
 refine mU e (Mir.joinO (fun v4 : Int=>([U,U,U,U,U,U,U,U,.d (.int .u32 (IntKind.u32.wrap (IntKind.u64.wrap (Int.tdiv 1000000000 (IntKind.u64.wrap ((IntKind.u64.wrap e1) + 1)))))),.d (.list (List.map (eInt .u32) y5)),.d (.int .u64 (IntKind.u64.wrap e2)),.d (.list (List.map (eInt .u32) y7)),.gs 0 0 0 ((Int.toNat (y6.length : Int)) - 0),.d (.list (List.map (eInt .u32) y6)),.d (.int .i64 v1.2.1),U,.d (.int .u64 v4)] ++ us 156)) (fun v4=>⟨[[.rowc 101 0 (List.map (eInt .u32) v1.2.2)]],[(101,1 + v1.1.length)]⟩) (fun _=>rfl) ?_ ?_) h
 refine .cond rfl (fun h6=>?_) (fun h6=>?_)
 refine .region fun e h=>?_
 simp only [seval,EMI,eInt,rmap_set,spD]
 cases h
 simp only [seval,FMI,eInt,rmap_set,spD,Tryz.results128]
 refine .skip fun e h=>?_
 cases h
 simp only [seval,FMI,eInt,rmap_set,spD,Tryz.results128]
 intro v4
 refine Mir.toK (.seqK (.bind fun y8 h7=>.region fun e h=>?_))
 simp only [seval,EMI,und_104,und_101,eInt,rmap_set,spD]
 refine SpecS.by (r01_by_spec h7) (by simp only [seval,FMI,eInt,rmap_set,spD]) ?_
 simp only [seval,EMI,eInt,rmap_set,spD]
 refine mU e (.seqK (Mir.joinO (fun v6 : Int × (List Int)=>([U,U,U,U,U,U,U,U,.d (.int .u32 (IntKind.u32.wrap (IntKind.u64.wrap (Int.tdiv 1000000000 (IntKind.u64.wrap ((IntKind.u64.wrap e1) + 1)))))),.d (.list (List.map (eInt .u32) y5)),.d (.int .u64 (IntKind.u64.wrap e2)),.d (.list (List.map (eInt .u32) y7)),.gs 0 0 0 ((Int.toNat (y6.length : Int)) - 0),.d (.list (List.map (eInt .u32) y6)),.d (.int .i64 v1.2.1),U,.d (.int .u64 v6.1),.d (.list (List.map (eInt .u32) v6.2))] ++ us 155)) (fun v6=>⟨[[.rowc 101 0 (List.map (eInt .u32) v1.2.2)]],[(101,1 + v1.1.length)]⟩) (fun _=>rfl) ?_ ?_)) h
 refine .block (Mir.loop (fun v5 : Int × (List Int)=>([U,U,U,U,U,U,U,U,.d (.int .u32 (IntKind.u32.wrap (IntKind.u64.wrap (Int.tdiv 1000000000 (IntKind.u64.wrap ((IntKind.u64.wrap e1) + 1)))))),.d (.list (List.map (eInt .u32) y5)),.d (.int .u64 (IntKind.u64.wrap e2)),.d (.list (List.map (eInt .u32) y7)),.gs 0 0 0 ((Int.toNat (y6.length : Int)) - 0),.d (.list (List.map (eInt .u32) y6)),.d (.int .i64 v1.2.1),U,.d (.int .u64 v5.1),.d (.list (List.map (eInt .u32) v5.2))] ++ us 155)) (fun v5=>⟨[[.rowc 101 0 (List.map (eInt .u32) v1.2.2)]],[(101,1 + v1.1.length)]⟩) (fun _=>rfl) (by simp only [seval,FMI,eInt,rmap_set,spD]) (by simp only [seval,FMI,eInt,rmap_set,spD]) fun v5=>.seqK (.seqK (.bind fun y9 h8=>.region fun e h=>?_)))
 simp only [seval,EMI,eInt,rmap_set,spD]
 refine SpecS.by (r01_compare_spec h8) (by simp only [seval,FMI,eInt,rmap_set,spD]) ?_
 simp only [seval,EMI,eInt,rmap_set,spD]
 refine mU e (.cond rfl (fun h9=>?_) (fun h9=>?_)) h
 refine .skip (Mir.toK (.block (.sR fun e h=>?_)))
 simp only [seval,EMI,eInt,rmap_set,spD]
 refine mU e (.bind fun y10 h10=>.region fun e h=>?_) h
 simp only [seval,EMI,eInt,rmap_set,spD]
 refine SpecS.by (r01_minus_spec h10) (by simp only [seval,FMI,eInt,rmap_set,spD]) ?_
 simp only [seval,EMI,eInt,rmap_set,spD]
 cases h
 simp only [seval,FMI,eInt,rmap_set,spD,Tryz.results128]
 refine .exit fun e h=>?_
 cases h
 simp only [seval,FMI,eInt,rmap_set,spD,Tryz.results128]
 intro v6
 refine Mir.toK (.seqK (.bind fun y11 h11=>.region fun e h=>?_))
 simp only [seval,EMI,eInt,rmap_set,spD]
 refine SpecS.by (r01_minus_spec h11) (by simp only [seval,FMI,eInt,rmap_set,spD]) ?_
 simp only [seval,EMI,eInt,rmap_set,spD]
 refine mU e (.guard fun q6=>?_) h
 replace q6 := and_of q6
 refine .bind fun e6 q7=>?_
 replace q7 := gt_ok q7
 simp only [Int.toNat_natCast] at q7
 refine .regionW fun e h=>regW.alt 4 rfl ?_
 simp only [seval,EMI,w_none,w_eq,und_104,und_101,eInt,rmap_set,spD]
 refine alt_indexG rfl rfl rfl und_49 sz_101 q6.1 q6.2 (regW.alt 0 rfl ?_)
 simp only [seval,EMI,w_none,w_eq,und_49,sz_101,eInt,rmap_set,spD]
 refine alt_storeR rfl rfl (row_at q7.2) rfl rfl sz_101 rfl (Nat.le_of_ble_eq_true rfl) (regW.of ?_)
 simp only [seval,EMI,w_none,w_eq,sz_101,eInt,rmap_set,spD]
 cases h
 simp only [seval,FMI,eInt,rmap_set,spD,Tryz.results128]
 intro v7
 refine Mir.toK (.region fun e h=>?_)
 simp only [seval,EMI,eInt,rmap_set,spD]
 cases h
 simp only [seval,FMI,eInt,rmap_set,spD,Tryz.results128]
 refine .exit fun e h=>?_
 cases h
 simp only [seval,FMI,eInt,rmap_set,spD,Tryz.results128]
 intro v8
 refine Mir.toK (.sR fun e h=>?_)
 simp only [seval,EMI,eInt,rmap_set,spD]
 refine mU e (.seqK (.guard fun q8=>.guard fun q9=>.regionW fun e h=>regW.alt 2 rfl ?_)) h
 simp only [seval,EMI,w_none,w_eq,und_49,eInt,rmap_set,spD]
 refine alt_makeM (en := (eInt .u32)) (z := 0) rfl rfl app_49 zero_101 rfl rfl (of_decide_eq_true q8) q9 (regW.of ?_)
 simp only [seval,EMI,w_none,w_eq,eInt,rmap_set,spD]
 refine mU e (.seqK (.sR fun e h=>?_)) h
 simp only [seval,EMI,und_49,eInt,rmap_set,spD]
 refine mU e (Mir.joinO (fun v10 : (List Int)=>([U,U,U,U,U,U,U,U,U,U,U,U,.gs 0 0 0 ((Int.toNat (y6.length : Int)) - 0),U,U,U,U,U,U,.gr 1 0] ++ us 153)) (fun v10=>⟨[[.rowc 101 0 (List.map (eInt .u32) v8.2)],[.rowc 101 0 (List.map (eInt .u32) v10)]],[]⟩) (fun _=>rfl) ?_ ?_) h
 refine .block (Mir.loop (fun v9 : Int × Int × (List Int)=>([U,U,U,U,U,U,U,U,.d (.int .u32 (IntKind.u32.wrap (IntKind.u64.wrap (Int.tdiv 1000000000 (IntKind.u64.wrap ((IntKind.u64.wrap e1) + 1)))))),U,U,.d (.list (List.map (eInt .u32) v8.1)),.gs 0 0 0 ((Int.toNat (y6.length : Int)) - 0),U,U,U,U,U,.d (.int .u64 v9.1),.gr 1 0,.d (.int .i64 v9.2.1)] ++ us 152)) (fun v9=>⟨[[.rowc 101 0 (List.map (eInt .u32) v8.2)],[.rowc 101 0 (List.map (eInt .u32) v9.2.2)]],[]⟩) (fun _=>rfl) (by simp only [seval,FMI,eInt,rmap_set,spD]) (by simp only [seval,FMI,eInt,rmap_set,spD]) fun v9=>.seqK (.sR fun e h=>?_))
 simp only [seval,EMI,eInt,rmap_set,spD]
 refine mU e (.cond rfl (fun h12=>?_) (fun h12=>?_)) h
 refine .skip (Mir.toK (.seqK (.block (.seqK (.bind fun e7 q10=>?_)))))
 replace q10 := gt_ok q10
 refine .region fun e h=>?_
 simp only [seval,EMI,und_49,sz_101,q10,ag_101,und_101,und_104,eInt,rmap_set,spD]
 refine mU e (.seqK (.guard fun q11=>?_)) h
 replace q11 := ne_of q11
 refine .bind fun e8 q13=>?_
 replace q13 := gt_ok q13
 refine .regionW fun e h=>regW.alt 7 rfl ?_
 simp only [seval,EMI,w_none,w_eq,und_101,und_104,q11,eInt,rmap_set,spD]
 refine alt_indexR rfl rfl rfl und_49 sz_101 (row_lo q13.1) (row_hi q13.2 q13.1) (regW.alt 0 rfl ?_)
 simp only [seval,EMI,w_none,w_eq,und_49,sz_101,eInt,rmap_set,spD]
 refine alt_storeR rfl rfl (row_at q13.2) rfl rfl sz_101 rfl (Nat.le_of_ble_eq_true rfl) (regW.of ?_)
 simp only [seval,EMI,w_none,w_eq,sz_101,eInt,rmap_set,spD]
 refine mU e (.guard fun q15=>?_) h
 replace q15 := ne_of q15
 refine .region fun e h=>?_
 simp only [seval,EMI,und_101,und_104,q15,eInt,rmap_set,spD]
 refine mU e (.region fun e h=>?_) h
 simp only [seval,EMI,eInt,rmap_set,spD]
 cases h
 simp only [seval,FMI,eInt,rmap_set,spD,Tryz.results128]
 refine .exit fun e h=>?_
 cases h
 simp only [seval,FMI,eInt,rmap_set,spD,Tryz.results128]
 intro v10
 refine Mir.toK (.seqK (.guard fun q18=>.frz 0 rfl ?_))
 simp only [seval,us_0,us_s,xCA,xNA,and_self,and_true,true_and,and_false,false_and,SZ,tk_map,dr_map]
 repeat first | rw [if_pos (show _ ≤ (_ : Nat) by simp only [lm]; have h1 := of_decide_eq_true q18; omega)]
 refine .frz 1 rfl ?_
 simp only [seval,us_0,us_s,xCA,xNA,and_self,and_true,true_and,and_false,false_and,SZ]
 refine .bind fun y12 h13=>.bind fun y13 h14=>.region fun e h=>?_
 simp only [seval,EMI,eInt,rmap_set,spD]
 refine SpecS.by (r01_trim_spec h13) (by simp only [seval,FMI,eInt,rmap_set,spD]) ?_
 simp only [seval,EMI,eInt,rmap_set,spD]
 refine SpecS.by (r01_trim_spec h14) (by simp only [seval,FMI,eInt,rmap_set,spD]) ?_
 simp only [seval,EMI,eInt,rmap_set,spD]
 refine mU e (.ret fun e h=>?_) h
 cases h
 simp only [seval,FMI,eInt,rmap_set,spD,Tryz.results128]
def r01_FromInt64 (a0 : Int) : Option ApiInt := if (decide (a0 < 0)) = true then bindO (r01_limbs (IntKind.u64.wrap (0 - (IntKind.u64.wrap a0)))) fun (y1 : (List Int)) => bindO (r01_signed true y1) fun (y2 : ApiInt) => some y2 else bindO (r01_limbs (IntKind.u64.wrap a0)) fun (y3 : (List Int)) => bindO (r01_signed false y3) fun (y4 : ApiInt) => some y4
theorem r01_FromInt64_spec {a0 : Int} {y : ApiInt} (h : r01_FromInt64 a0 = some y) : Spec gP 46 [.d (.int .i64 a0)] (.agg [.d (.bool y.Neg), .d (.list (List.map (eInt .u32) y.Limbs))]) := by
 refine spec_mir Tryz.func46 rfl (by kernel_rfl) (by kernel_rfl) (fun y : ApiInt => .agg [.d (.bool y.Neg), .d (.list (List.map (eInt .u32) y.Limbs))]) ?_ h
 unfold r01_FromInt64
 simp only [List.replicate, List.length, nS, nA, Tryz.ntmps46, SV]
 refine .sR fun e h=>?_
 simp only [seval,EMI,zero_51]
 refine mU e (.seqK (.sR fun e h=>?_)) h
 simp only [seval,EMI]
 refine mU e (.cond rfl (fun hb4=>?_) (fun hb4=>?_)) h
 refine .seqK (.bind fun y1 hy5=>.bind fun y2 hy6=>.region fun e h=>?_)
 simp only [seval,EMI,und_2,und_104]
 refine SpecS.by (r01_limbs_spec hy5) (by simp only [seval,FMI]) ?_
 simp only [seval,EMI]
 refine SpecS.by (r01_signed_spec hy6) (by simp only [seval,FMI]) ?_
 simp only [seval,EMI,sz_51]
 refine mU e (.ret fun e h=>?_) h
 cases h
 simp only [seval,FMI,Tryz.results46,ag_51,sz_51]
 refine .skip (Mir.toK (.seqK (.bind fun y3 hy7=>.bind fun y4 hy8=>.region fun e h=>?_)))
 simp only [seval,EMI,und_2,und_104]
 refine SpecS.by (r01_limbs_spec hy7) (by simp only [seval,FMI]) ?_
 simp only [seval,EMI]
 refine SpecS.by (r01_signed_spec hy8) (by simp only [seval,FMI]) ?_
 simp only [seval,EMI,sz_51]
 refine mU e (.ret fun e h=>?_) h
 cases h
 simp only [seval,FMI,Tryz.results46,ag_51,sz_51]
def r01_DivMod (a0 : ApiInt) (a1 : ApiInt) : Option (ApiInt × ApiInt × Int) := if ((a1.Limbs.length : Int) == 0) = true then some (ApiInt.mk false [], ApiInt.mk false [], 6) else bindO (r01_parts a0.Limbs a1.Limbs) fun (y1 : (List Int) × (List Int)) => bindO (r01_signed (!(a0.Neg == a1.Neg)) y1.1) fun (y2 : ApiInt) => bindO (r01_signed a0.Neg y1.2) fun (y3 : ApiInt) => bindO (if ((decide ((y1.2.length : Int) > 0)) && (!(a0.Neg == a1.Neg))) = true then bindO (r01_FromInt64 1) fun (y4 : ApiInt) => bindO (r01_Sub y2 y4) fun (y5 : ApiInt) => bindO (r01_Add y3 a1) fun (y6 : ApiInt) => some (y5, y6) else some (y2, y3)) fun (v1 : ApiInt × ApiInt) => some (v1.1, v1.2, 0)
theorem r01_DivMod_spec {a0 : ApiInt} {a1 : ApiInt} {y : ApiInt × ApiInt × Int} (h : r01_DivMod a0 a1 = some y) : Spec gP 102 [.agg [.d (.bool a0.Neg), .d (.list (List.map (eInt .u32) a0.Limbs))], .agg [.d (.bool a1.Neg), .d (.list (List.map (eInt .u32) a1.Limbs))]] (.tuple [.agg [.d (.bool y.1.Neg), .d (.list (List.map (eInt .u32) y.1.Limbs))], .agg [.d (.bool y.2.1.Neg), .d (.list (List.map (eInt .u32) y.2.1.Limbs))], .d (.int .i64 y.2.2)]) := by
 refine spec_mir Tryz.func102 rfl (by kernel_rfl) (by kernel_rfl) (fun y : ApiInt × ApiInt × Int => .tuple [.agg [.d (.bool y.1.Neg), .d (.list (List.map (eInt .u32) y.1.Limbs))], .agg [.d (.bool y.2.1.Neg), .d (.list (List.map (eInt .u32) y.2.1.Limbs))], .d (.int .i64 y.2.2)]) ?_ h
 unfold r01_DivMod
 simp only [List.replicate, List.length, nS, nA, Tryz.ntmps102, SV]
 refine .sR fun e h=>?_
 simp only [seval,EMI,zero_51,eInt]
 refine mU e (.seqK (.sR fun e h=>?_)) h
 simp only [seval,EMI,fld_51_1,sz_49,ag_49,und_49,eInt]
 refine mU e (.cond rfl (fun hb2=>?_) (fun hb2=>?_)) h
 refine .sR fun e h=>?_
 simp only [seval,EMI,zero_51,pl_51,sz_51,eInt]
 refine mU e (.ret fun e h=>?_) h
 cases h
 simp only [seval,FMI,eInt,Tryz.results102,ag_51,sz_51]
 refine .skip (Mir.toK (.seqK (.bind fun y1 hy3=>.region fun e h=>?_)))
 simp only [seval,EMI,fld_51_1,sz_49,ag_49,eInt]
 refine SpecS.by (r01_parts_spec hy3) (by simp only [seval,FMI,eInt]) ?_
 simp only [seval,EMI,eInt]
 refine mU e (.seqK (.bind fun y2 hy4=>.bind fun y3 hy5=>.regionD [] (by kernel_rfl) fun e h=>?_)) h
 simp only [seval,EMI,SB,fld_51_0,sz_4,ag_4,und_4,eInt]
 refine Spec.by (r01_signed_spec hy4) (by simp only [seval,FMI,eInt]) ?_
 simp only [seval,EMI,SB,fld_51_0,sz_4,ag_4,eInt]
 refine Spec.by (r01_signed_spec hy5) (by simp only [seval,FMI,eInt]) ?_
 simp only [seval,EMI,SB,zero_51,sz_51,eInt]
 refine mU e (.seqK (.seqK (.joinV ([U,U,U,.ptr 1 0,.ptr 2 0,.ptr 3 0,U,U,U,.ptr 4 0,.ptr 5 0,U,U,U,U,U,U,U,U,U,U,U,U,U,U,U,U,U,U,U,U,U,U,U,U,U,U,U,U,U,U,U,U,U,U,.d (.bool ((decide ((y1.2.length : Int) > 0)) && (!(a0.Neg == a1.Neg))))] ++ us 8) ⟨[[.d (.bool a0.Neg),.d (.list (List.map (eInt .u32) a0.Limbs))],[.d (.bool a1.Neg),.d (.list (List.map (eInt .u32) a1.Limbs))],[.d (.bool false),.nil],[.d (.bool false),.nil],[.d (.bool y2.Neg),.d (.list (List.map (eInt .u32) y2.Limbs))],[.d (.bool y3.Neg),.d (.list (List.map (eInt .u32) y3.Limbs))]],[]⟩ rfl ?_ ?_))) h
 refine SWs.region ?_
 rcases Bool.eq_false_or_eq_true (decide ((y1.2.length : Int) > 0)) with hb6 | hb6
 simp only [seval,EMI,SL,PB,und_49,fld_51_0,sz_4,ag_4,und_4,hb6,eInt]
 simp only [seval,EMI,SL,PB,und_49,hb6,eInt]
 refine Mir.toK (Mir.joinO (fun v1 : ApiInt × ApiInt=>([U,U,U,U,.ptr 2 0,.ptr 3 0,U,U,U,.ptr 4 0,.ptr 5 0] ++ us 43)) (fun v1=>⟨[[.d (.bool a0.Neg),.d (.list (List.map (eInt .u32) a0.Limbs))],[.d (.bool a1.Neg),.d (.list (List.map (eInt .u32) a1.Limbs))],[.d (.bool false),.nil],[.d (.bool false),.nil],[.d (.bool v1.1.Neg),.d (.list (List.map (eInt .u32) v1.1.Limbs))],[.d (.bool v1.2.Neg),.d (.list (List.map (eInt .u32) v1.2.Limbs))]],[]⟩) (fun _=>rfl) ?_ ?_)
 refine .cond rfl (fun hb11=>?_) (fun hb11=>?_)
 refine .bind fun y4 hy12=>.bind fun y5 hy13=>.bind fun y6 hy14=>.regionD [] (by kernel_rfl) fun e h=>?_
 simp only [seval,EMI,SB,ag_51,sz_51,eInt]
 refine Spec.by (r01_FromInt64_spec hy12) (by simp only [seval,FMI,eInt]) ?_
 simp only [seval,EMI,SB,eInt]
 refine Spec.by (r01_Sub_spec hy13) (by simp only [seval,FMI,eInt]) ?_
 simp only [seval,EMI,SB,ag_51,sz_51,eInt]
 refine Spec.by (r01_Add_spec hy14) (by simp only [seval,FMI,eInt]) ?_
 simp only [seval,EMI,SB,sz_51,eInt]
 cases h
 simp only [seval,FMI,eInt,Tryz.results102,ag_51,sz_51]
 refine .skip fun e h=>?_
 cases h
 simp only [seval,FMI,eInt,Tryz.results102,ag_51,sz_51]
 intro v1
 refine Mir.toK (.seqK (.regionD [(10,4)] (by kernel_rfl) fun e h=>?_))
 simp only [seval,EMI,SB,ag_51,sz_51,eInt]
 refine mU e (.ret fun e h=>?_) h
 cases h
 simp only [seval,FMI,eInt,Tryz.results102,ag_51,sz_51]
def r01_GCD (a0 : ApiInt) (a1 : ApiInt) : Option ApiInt := bindO (loopX (fun (v1 : (List Int) × (List Int)) => if ((decide ((v1.2.length : Int) > 0)) && ((decide ((v1.1.length : Int) > 2)) || (decide ((v1.2.length : Int) > 2)))) = true then bindO (r01_parts v1.1 v1.2) fun (y1 : (List Int) × (List Int)) => some (.go (v1.2, y1.2)) else some (.ret (v1.1, v1.2))) fuel (a0.Limbs, a1.Limbs)) fun (v2 : (List Int) × (List Int)) => if ((v2.2.length : Int) == 0) = true then bindO (r01_signed false v2.1) fun (y2 : ApiInt) => some y2 else bindO (r01_short v2.1) fun (y3 : Int) => bindO (r01_short v2.2) fun (y4 : Int) => bindO (loopX (fun (v3 : Int × Int) => if (decide (v3.2 > 0)) = true then guardO (!(v3.2 == 0)) ( some (.go (v3.2, Int.tmod v3.1 v3.2))) else some (.ret v3.1)) fuel (y3, y4)) fun (v4 : Int) => bindO (r01_limbs v4) fun (y5 : (List Int)) => bindO (r01_signed false y5) fun (y6 : ApiInt) => some y6
theorem r01_GCD_spec {a0 : ApiInt} {a1 : ApiInt} {y : ApiInt} (h : r01_GCD a0 a1 = some y) : Spec gP 101 [.agg [.d (.bool a0.Neg), .d (.list (List.map (eInt .u32) a0.Limbs))], .agg [.d (.bool a1.Neg), .d (.list (List.map (eInt .u32) a1.Limbs))]] (.agg [.d (.bool y.Neg), .d (.list (List.map (eInt .u32) y.Limbs))]) := by
 refine spec_mir Tryz.func101 rfl (by kernel_rfl) (by kernel_rfl) (fun y : ApiInt => .agg [.d (.bool y.Neg), .d (.list (List.map (eInt .u32) y.Limbs))]) ?_ h
 unfold r01_GCD
 simp only [List.replicate, List.length, nS, nA, Tryz.ntmps101, SV]
 refine .sR fun e h=>?_
 simp only [seval,EMI,zero_51,eInt]
 refine mU e (.seqK (.regionD [] (by kernel_rfl) fun e h=>?_)) h
 simp only [seval,EMI,SB,fld_51_1,sz_49,ag_49,eInt]
 refine mU e (.seqK (Mir.joinO (fun v2 : (List Int) × (List Int)=>([U,U,U,U,.ptr 2 0,.d (.list (List.map (eInt .u32) v2.1)),.d (.list (List.map (eInt .u32) v2.2))] ++ us 47)) (fun v2=>⟨[[.d (.bool a0.Neg),.d (.list (List.map (eInt .u32) a0.Limbs))],[.d (.bool a1.Neg),.d (.list (List.map (eInt .u32) a1.Limbs))],[.d (.bool false),.nil]],[]⟩) (fun _=>rfl) ?_ ?_)) h
 refine .block (Mir.loop (fun v1 : (List Int) × (List Int)=>([U,U,U,U,.ptr 2 0,.d (.list (List.map (eInt .u32) v1.1)),.d (.list (List.map (eInt .u32) v1.2))] ++ us 47)) (fun v1=>⟨[[.d (.bool a0.Neg),.d (.list (List.map (eInt .u32) a0.Limbs))],[.d (.bool a1.Neg),.d (.list (List.map (eInt .u32) a1.Limbs))],[.d (.bool false),.nil]],[]⟩) (fun _=>rfl) (by simp only [seval,FMI,eInt]) (by simp only [seval,FMI,eInt]) fun v1=>.seqK (.seqK (.joinV ([U,U,U,U,.ptr 2 0,.d (.list (List.map (eInt .u32) v1.1)),.d (.list (List.map (eInt .u32) v1.2)),U,U,U,U,U,U,U,U,U,U,U,U,U,U,U,U,U,U,U,U,.d (.bool ((decide ((v1.2.length : Int) > 0)) && ((decide ((v1.1.length : Int) > 2)) || (decide ((v1.2.length : Int) > 2)))))] ++ us 26) ⟨[[.d (.bool a0.Neg),.d (.list (List.map (eInt .u32) a0.Limbs))],[.d (.bool a1.Neg),.d (.list (List.map (eInt .u32) a1.Limbs))],[.d (.bool false),.nil]],[]⟩ rfl ?_ ?_)))
 refine SWs.region ?_
 rcases Bool.eq_false_or_eq_true (decide ((v1.2.length : Int) > 0)) with hb34 | hb34
 rcases Bool.eq_false_or_eq_true (decide ((v1.1.length : Int) > 2)) with hb35 | hb35
 simp only [seval,EMI,SL,PB,und_49,hb34,hb35,eInt]
 simp only [seval,EMI,SL,PB,und_49,hb34,hb35,eInt]
 simp only [seval,EMI,SL,PB,und_49,hb34,eInt]
 refine Mir.toK (.cond rfl (fun hb37=>?_) (fun hb37=>?_))
 refine .skip (Mir.toK (.block (.seqK (.bind fun y1 hy38=>.region fun e h=>?_))))
 simp only [seval,EMI,eInt]
 refine SpecS.by (r01_parts_spec hy38) (by simp only [seval,FMI,eInt]) ?_
 simp only [seval,EMI,eInt]
 refine mU e (.region fun e h=>?_) h
 simp only [seval,EMI,eInt]
 cases h
 simp only [seval,FMI,eInt,Tryz.results101,ag_51,sz_51]
 refine .exit fun e h=>?_
 cases h
 simp only [seval,FMI,eInt,Tryz.results101,ag_51,sz_51]
 intro v2
 refine Mir.toK (.seqK (.sR fun e h=>?_))
 simp only [seval,EMI,und_49,eInt]
 refine mU e (.cond rfl (fun hb41=>?_) (fun hb41=>?_)) h
 refine .seqK (.bind fun y2 hy42=>.region fun e h=>?_)
 simp only [seval,EMI,eInt]
 refine SpecS.by (r01_signed_spec hy42) (by simp only [seval,FMI,eInt]) ?_
 simp only [seval,EMI,sz_51,eInt]
 refine mU e (.ret fun e h=>?_) h
 cases h
 simp only [seval,FMI,eInt,Tryz.results101,ag_51,sz_51]
 refine .skip (Mir.toK (.seqK (.bind fun y3 hy43=>.bind fun y4 hy44=>.region fun e h=>?_)))
 simp only [seval,EMI,eInt]
 refine SpecS.by (r01_short_spec hy43) (by simp only [seval,FMI,eInt]) ?_
 simp only [seval,EMI,eInt]
 refine SpecS.by (r01_short_spec hy44) (by simp only [seval,FMI,eInt]) ?_
 simp only [seval,EMI,eInt]
 refine mU e (.seqK (Mir.joinO (fun v4 : Int=>([U,U,U,U,.ptr 2 0,U,U,U,U,.d (.int .u64 v4)] ++ us 44)) (fun v4=>⟨[[.d (.bool a0.Neg),.d (.list (List.map (eInt .u32) a0.Limbs))],[.d (.bool a1.Neg),.d (.list (List.map (eInt .u32) a1.Limbs))],[.d (.bool false),.nil]],[]⟩) (fun _=>rfl) ?_ ?_)) h
 refine .block (Mir.loop (fun v3 : Int × Int=>([U,U,U,U,.ptr 2 0,U,U,U,U,.d (.int .u64 v3.1),.d (.int .u64 v3.2)] ++ us 43)) (fun v3=>⟨[[.d (.bool a0.Neg),.d (.list (List.map (eInt .u32) a0.Limbs))],[.d (.bool a1.Neg),.d (.list (List.map (eInt .u32) a1.Limbs))],[.d (.bool false),.nil]],[]⟩) (fun _=>rfl) (by simp only [seval,FMI,eInt]) (by simp only [seval,FMI,eInt]) fun v3=>.seqK (.sR fun e h=>?_))
 simp only [seval,EMI,eInt]
 refine mU e (.cond rfl (fun hb61=>?_) (fun hb61=>?_)) h
 refine .skip (Mir.toK (.block (.guard fun q62=>?_)))
 replace q62 := ne_of q62
 refine .regionD [] (by kernel_rfl) fun e h=>?_
 simp only [seval,EMI,SB,q62,eInt]
 cases h
 simp only [seval,FMI,eInt,Tryz.results101,ag_51,sz_51]
 refine .exit fun e h=>?_
 cases h
 simp only [seval,FMI,eInt,Tryz.results101,ag_51,sz_51]
 intro v4
 refine Mir.toK (.seqK (.bind fun y5 hy63=>.bind fun y6 hy64=>.region fun e h=>?_))
 simp only [seval,EMI,eInt]
 refine SpecS.by (r01_limbs_spec hy63) (by simp only [seval,FMI,eInt]) ?_
 simp only [seval,EMI,eInt]
 refine SpecS.by (r01_signed_spec hy64) (by simp only [seval,FMI,eInt]) ?_
 simp only [seval,EMI,sz_51,eInt]
 refine mU e (.ret fun e h=>?_) h
 cases h
 simp only [seval,FMI,eInt,Tryz.results101,ag_51,sz_51]
def r01_Cmp (a0 : ApiInt) (a1 : ApiInt) : Option Int := if (!(a0.Neg == a1.Neg)) = true then if a0.Neg = true then some (-1) else some 1 else if a0.Neg = true then bindO (r01_compare a1.Limbs a0.Limbs) fun (y1 : Int) => some y1 else bindO (r01_compare a0.Limbs a1.Limbs) fun (y2 : Int) => some y2
theorem r01_Cmp_spec {a0 : ApiInt} {a1 : ApiInt} {y : Int} (h : r01_Cmp a0 a1 = some y) : Spec gP 64 [.agg [.d (.bool a0.Neg), .d (.list (List.map (eInt .u32) a0.Limbs))], .agg [.d (.bool a1.Neg), .d (.list (List.map (eInt .u32) a1.Limbs))]] (.d (.int .i64 y)) := by
 refine spec_mir Tryz.func64 rfl (by kernel_rfl) (by kernel_rfl) (fun y : Int => .d (.int .i64 y)) ?_ h
 unfold r01_Cmp
 simp only [List.replicate, List.length, nS, nA, Tryz.ntmps64, SV]
 refine .sR fun e h=>?_
 simp only [seval,EMI,eInt]
 refine mU e (.seqK (.sR fun e h=>?_)) h
 simp only [seval,EMI,fld_51_0,sz_4,ag_4,und_4,eInt]
 refine mU e (.cond rfl (fun hb4=>?_) (fun hb4=>?_)) h
 refine .seqK (.sR fun e h=>?_)
 simp only [seval,EMI,fld_51_0,sz_4,ag_4,eInt]
 refine mU e (.cond rfl (fun hb6=>?_) (fun hb6=>?_)) h
 refine .sR fun e h=>?_
 simp only [seval,EMI,eInt]
 refine mU e (.ret fun e h=>?_) h
 cases h
 simp only [seval,FMI,eInt,Tryz.results64]
 refine .skip (Mir.toK (.sR fun e h=>?_))
 simp only [seval,EMI,eInt]
 refine mU e (.ret fun e h=>?_) h
 cases h
 simp only [seval,FMI,eInt,Tryz.results64]
 refine .skip (Mir.toK (.seqK (.sR fun e h=>?_)))
 simp only [seval,EMI,fld_51_0,sz_4,ag_4,eInt]
 refine mU e (.cond rfl (fun hb9=>?_) (fun hb9=>?_)) h
 refine .seqK (.bind fun y1 hy10=>.region fun e h=>?_)
 simp only [seval,EMI,fld_51_1,sz_49,ag_49,eInt]
 refine SpecS.by (r01_compare_spec hy10) (by simp only [seval,FMI,eInt]) ?_
 simp only [seval,EMI,eInt]
 refine mU e (.ret fun e h=>?_) h
 cases h
 simp only [seval,FMI,eInt,Tryz.results64]
 refine .skip (Mir.toK (.seqK (.bind fun y2 hy11=>.region fun e h=>?_)))
 simp only [seval,EMI,fld_51_1,sz_49,ag_49,eInt]
 refine SpecS.by (r01_compare_spec hy11) (by simp only [seval,FMI,eInt]) ?_
 simp only [seval,EMI,eInt]
 refine mU e (.ret fun e h=>?_) h
 cases h
 simp only [seval,FMI,eInt,Tryz.results64]
def r01_Sign (a0 : ApiInt) : Option Int := if ((a0.Limbs.length : Int) == 0) = true then some 0 else if a0.Neg = true then some (-1) else some 1
theorem r01_Sign_spec {a0 : ApiInt} {y : Int} (h : r01_Sign a0 = some y) : Spec gP 99 [.agg [.d (.bool a0.Neg), .d (.list (List.map (eInt .u32) a0.Limbs))]] (.d (.int .i64 y)) := by
 refine spec_mir Tryz.func99 rfl (by kernel_rfl) (by kernel_rfl) (fun y : Int => .d (.int .i64 y)) ?_ h
 unfold r01_Sign
 simp only [List.replicate, List.length, nS, nA, Tryz.ntmps99, SV]
 refine .sR fun e h=>?_
 simp only [seval,EMI,eInt]
 refine mU e (.seqK (.sR fun e h=>?_)) h
 simp only [seval,EMI,fld_51_1,sz_49,ag_49,und_49,eInt]
 refine mU e (.cond rfl (fun hb2=>?_) (fun hb2=>?_)) h
 refine .sR fun e h=>?_
 simp only [seval,EMI,eInt]
 refine mU e (.ret fun e h=>?_) h
 cases h
 simp only [seval,FMI,eInt,Tryz.results99]
 refine .skip (Mir.toK (.seqK (.sR fun e h=>?_)))
 simp only [seval,EMI,fld_51_0,sz_4,ag_4,eInt]
 refine mU e (.cond rfl (fun hb4=>?_) (fun hb4=>?_)) h
 refine .sR fun e h=>?_
 simp only [seval,EMI,eInt]
 refine mU e (.ret fun e h=>?_) h
 cases h
 simp only [seval,FMI,eInt,Tryz.results99]
 refine .skip (Mir.toK (.sR fun e h=>?_))
 simp only [seval,EMI,eInt]
 refine mU e (.ret fun e h=>?_) h
 cases h
 simp only [seval,FMI,eInt,Tryz.results99]
def r01_Int64 (a0 : ApiInt) : Option (Int × Bool) := bindO (r01_FromInt64 (-9223372036854775808)) fun (y1 : ApiInt) => bindO (r01_FromInt64 9223372036854775807) fun (y2 : ApiInt) => bindO (bindO (r01_Cmp a0 y1) fun (y3 : Int) => if (decide (y3 < 0)) = true then some true else bindO (r01_Cmp a0 y2) fun (y4 : Int) => some (decide (y4 > 0))) fun (v1 : Bool) => if v1 = true then some (0, false) else bindO (r01_short a0.Limbs) fun (y5 : Int) => if a0.Neg = true then some (IntKind.i64.wrap (0 - (IntKind.i64.wrap y5)), true) else some (IntKind.i64.wrap y5, true)
theorem r01_Int64_spec {a0 : ApiInt} {y : Int × Bool} (h : r01_Int64 a0 = some y) : Spec gP 38 [.agg [.d (.bool a0.Neg), .d (.list (List.map (eInt .u32) a0.Limbs))]] (.tuple [.d (.int .i64 y.1), .d (.bool y.2)]) := by
 refine spec_mir Tryz.func38 rfl (by kernel_rfl) (by kernel_rfl) (fun y : Int × Bool => .tuple [.d (.int .i64 y.1), .d (.bool y.2)]) ?_ h
 unfold r01_Int64
 simp only [List.replicate, List.length, nS, nA, Tryz.ntmps38, SV]
 refine .sR fun e h=>?_
 simp only [seval,EMI,eInt]
 refine mU e (.seqK (.bind fun y1 hy1=>.bind fun y2 hy2=>.region fun e h=>?_)) h
 simp only [seval,EMI,eInt]
 refine SpecS.by (r01_FromInt64_spec hy1) (by simp only [seval,FMI,eInt]) ?_
 simp only [seval,EMI,eInt]
 refine SpecS.by (r01_FromInt64_spec hy2) (by simp only [seval,FMI,eInt]) ?_
 simp only [seval,EMI,zero_51,sz_51,eInt]
 refine mU e (.seqK (.seqK (Mir.joinO (fun v1 : Bool=>([U,.ptr 0 0,U,U,U,U,U,U,U,U,U,U,U,U,U,U,U,U,.d (.bool v1)] ++ us 10)) (fun v1=>⟨[[.d (.bool a0.Neg),.d (.list (List.map (eInt .u32) a0.Limbs))],[.d (.bool y1.Neg),.d (.list (List.map (eInt .u32) y1.Limbs))],[.d (.bool y2.Neg),.d (.list (List.map (eInt .u32) y2.Limbs))]],[]⟩) (fun _=>rfl) ?_ ?_))) h
 refine .bind fun y3 hy3=>.ite (fun hb4=>?_) (fun hb4=>?_)
 refine .region fun e h=>?_
 simp only [seval,EMI,ag_51,sz_51,eInt,hb4]
 refine SpecS.by (r01_Cmp_spec hy3) (by simp only [seval,FMI,eInt,hb4]) ?_
 simp only [seval,EMI,eInt,hb4]
 cases h
 simp only [seval,FMI,eInt,hb4]
 refine .bind fun y4 hy5=>.region fun e h=>?_
 simp only [seval,EMI,ag_51,sz_51,eInt,hb4]
 refine SpecS.by (r01_Cmp_spec hy3) (by simp only [seval,FMI,eInt,hb4]) ?_
 simp only [seval,EMI,ag_51,sz_51,eInt,hb4]
 refine SpecS.by (r01_Cmp_spec hy5) (by simp only [seval,FMI,eInt,hb4]) ?_
 simp only [seval,EMI,eInt,hb4]
 cases h
 simp only [seval,FMI,eInt,hb4]
 intro v1
 refine Mir.toK (.cond rfl (fun hb7=>?_) (fun hb7=>?_))
 refine .sR fun e h=>?_
 simp only [seval,EMI,eInt]
 refine mU e (.ret fun e h=>?_) h
 cases h
 simp only [seval,FMI,eInt,Tryz.results38]
 refine .skip (Mir.toK (.seqK (.bind fun y5 hy8=>.region fun e h=>?_)))
 simp only [seval,EMI,fld_51_1,sz_49,ag_49,eInt]
 refine SpecS.by (r01_short_spec hy8) (by simp only [seval,FMI,eInt]) ?_
 simp only [seval,EMI,eInt]
 refine mU e (.seqK (.sR fun e h=>?_)) h
 simp only [seval,EMI,fld_51_0,sz_4,ag_4,eInt]
 refine mU e (.cond rfl (fun hb10=>?_) (fun hb10=>?_)) h
 refine .sR fun e h=>?_
 simp only [seval,EMI,und_104,und_2,eInt]
 refine mU e (.ret fun e h=>?_) h
 cases h
 simp only [seval,FMI,eInt,Tryz.results38]
 refine .skip (Mir.toK (.sR fun e h=>?_))
 simp only [seval,EMI,und_104,und_2,eInt]
 refine mU e (.ret fun e h=>?_) h
 cases h
 simp only [seval,FMI,eInt,Tryz.results38]
def r01_Same (a0 : ApiInt) (a1 : ApiInt) : Option Bool := bindO (if (a0.Neg == a1.Neg) = true then bindO (r01_compare a0.Limbs a1.Limbs) fun (y1 : Int) => some (y1 == 0) else some false) fun (v1 : Bool) => some v1
theorem r01_Same_spec {a0 : ApiInt} {a1 : ApiInt} {y : Bool} (h : r01_Same a0 a1 = some y) : Spec gP 42 [.agg [.d (.bool a0.Neg), .d (.list (List.map (eInt .u32) a0.Limbs))], .agg [.d (.bool a1.Neg), .d (.list (List.map (eInt .u32) a1.Limbs))]] (.d (.bool y)) := by
 refine spec_mir Tryz.func42 rfl (by kernel_rfl) (by kernel_rfl) (fun y : Bool => .d (.bool y)) ?_ h
 unfold r01_Same
 simp only [List.replicate, List.length, nS, nA, Tryz.ntmps42, SV]
 refine .sR fun e h=>?_
 simp only [seval,EMI,eInt]
 refine mU e (.seqK (Mir.joinO (fun v1 : Bool=>([U,U,U,U,.d (.bool v1)] ++ us 13)) (fun v1=>⟨[[.d (.bool a0.Neg),.d (.list (List.map (eInt .u32) a0.Limbs))],[.d (.bool a1.Neg),.d (.list (List.map (eInt .u32) a1.Limbs))]],[]⟩) (fun _=>rfl) ?_ ?_)) h
 refine .ite (fun hb1=>?_) (fun hb1=>?_)
 refine .bind fun y1 hy2=>.region fun e h=>?_
 simp only [seval,EMI,fld_51_0,sz_4,ag_4,und_4,fld_51_1,sz_49,ag_49,eInt,hb1]
 refine SpecS.by (r01_compare_spec hy2) (by simp only [seval,FMI,eInt,hb1]) ?_
 simp only [seval,EMI,eInt,hb1]
 cases h
 simp only [seval,FMI,eInt,hb1]
 refine .region fun e h=>?_
 simp only [seval,EMI,fld_51_0,sz_4,ag_4,und_4,eInt,hb1]
 cases h
 simp only [seval,FMI,eInt,hb1]
 intro v1
 refine Mir.toK (.ret fun e h=>?_)
 cases h
 simp only [seval,FMI,eInt,Tryz.results42]
end Go.Proofs.YtpdjgamdnjfmkaaGreatDoor
