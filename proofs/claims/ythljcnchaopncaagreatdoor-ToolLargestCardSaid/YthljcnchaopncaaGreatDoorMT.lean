import Derived.Test.YthljcnchaopncaaGreatDoorGx
import Derived.Test.YthljcnchaopncaaGreatDoorTy
import Derived.Test.YthljcnchaopncaaGreatDoorLbe
import Derived.Test.YthljcnchaopncaaGreatDoorSzz
import Derived.Test.YthljcnchaopncaaGreatDoorMI
import Derived.Test.YthljcnchaopncaaGreatDoorMQ
import Derived.Test.YthljcnchaopncaaGreatDoorMB
namespace Go.Proofs.YthljcnchaopncaaGreatDoor
open Go.RowKit
open Nat renaming reduceAdd → nA,reduceSub → nS,reduceMul → nM,reduceEqDiff → nE,reduceLeDiff → nL,reduceLT → nT,reduceBEq → nB
open Int renaming reduceLT → iT,reduceToNat → iN,reduceEq → iE
set_option linter.unusedVariables false
set_option linter.unusedSimpArgs false
set_option maxRecDepth 100000
set_option maxHeartbeats 8000000
theorem EMT : type_of% (@SE) := @SE
theorem FMT : type_of% (@SF) := @SF
def stringslite_HasPrefix (a0 : (List UInt8)) (a1 : (List UInt8)) : Option Bool := bindO (if (decide ((a0.length : Int) ≥ (a1.length : Int))) = true then bindO (cutT a0 (a1.length : Int)) fun (s1 : (List UInt8))=>some (s1 == a1) else some false) fun (v1 : Bool)=>some v1
theorem stringslite_HasPrefix_spec {a0 : (List UInt8)} {a1 : (List UInt8)} {y : Bool} (h : stringslite_HasPrefix a0 a1 = some y) : Spec gP 131 [.d (.str a0),.d (.str a1)] (.d (.bool y)) := by
 refine spec_mir Tryz.func131 rfl (by kernel_rfl) (by kernel_rfl) (fun y : Bool=>.d (.bool y)) ?_ h
 unfold stringslite_HasPrefix
 simp only [List.replicate,List.length,nS,nA,Tryz.ntmps131,SV]
 refine .sR fun e h=>?_
 simp only [seval,EMT]
 refine mU e (.seqK (Mir.joinO (fun v1 : Bool=>([U,U,U,U,.d (.bool v1)] ++ us 13)) (fun v1=>⟨[],[]⟩) (fun _=>rfl) ?_ ?_)) h
 refine .ite (fun hb1=>?_) (fun hb1=>?_)
 refine .bind fun s1 q2=>?_
 replace q2 := cutT_ok q2
 refine .region fun e h=>?_
 simp only [seval,EMT,und_9,q2,Nat.le_refl,and_true,true_and,dm,tm,hb1]
 cases h
 simp only [seval,FMT,hb1]
 refine .region fun e h=>?_
 simp only [seval,EMT,und_9,hb1]
 cases h
 simp only [seval,FMT,hb1]
 intro v1
 refine Mir.toK (.ret fun e h=>?_)
 cases h
 simp only [seval,FMT,Tryz.results131]
def stringslite_CutPrefix (a0 : (List UInt8)) (a1 : (List UInt8)) : Option ((List UInt8) × Bool) := bindO (stringslite_HasPrefix a0 a1) fun (y1 : Bool)=>if (!y1) = true then some (a0,false) else bindO (cutF a0 (a1.length : Int)) fun (s1 : (List UInt8))=>some (s1,true)
theorem stringslite_CutPrefix_spec {a0 : (List UInt8)} {a1 : (List UInt8)} {y : (List UInt8) × Bool} (h : stringslite_CutPrefix a0 a1 = some y) : Spec gP 124 [.d (.str a0),.d (.str a1)] (.tuple [.d (.str y.1),.d (.bool y.2)]) := by
 refine spec_mir Tryz.func124 rfl (by kernel_rfl) (by kernel_rfl) (fun y : (List UInt8) × Bool=>.tuple [.d (.str y.1),.d (.bool y.2)]) ?_ h
 unfold stringslite_CutPrefix
 simp only [List.replicate,List.length,nS,nA,Tryz.ntmps124,SV]
 refine .sR fun e h=>?_
 simp only [seval,EMT]
 refine mU e (.seqK (.seqK (.bind fun y1 hy1=>.region fun e h=>?_))) h
 simp only [seval,EMT]
 refine SpecS.by (stringslite_HasPrefix_spec hy1) (by simp only [seval,FMT]) ?_
 simp only [seval,EMT]
 refine mU e (.cond rfl (fun hb3=>?_) (fun hb3=>?_)) h
 refine .sR fun e h=>?_
 simp only [seval,EMT]
 refine mU e (.ret fun e h=>?_) h
 cases h
 simp only [seval,FMT,Tryz.results124]
 refine .skip (Mir.toK (.seqK (.bind fun s1 q4=>?_)))
 replace q4 := cutF_ok q4
 refine .region fun e h=>?_
 simp only [seval,EMT,und_9,q4,Nat.le_refl,and_true,true_and,dm,tm]
 refine mU e (.ret fun e h=>?_) h
 cases h
 simp only [seval,FMT,Tryz.results124]
def strings_CutPrefix (a0 : (List UInt8)) (a1 : (List UInt8)) : Option ((List UInt8) × Bool) := bindO (stringslite_CutPrefix a0 a1) fun (y1 : (List UInt8) × Bool)=>some (y1.1,y1.2)
theorem strings_CutPrefix_spec {a0 : (List UInt8)} {a1 : (List UInt8)} {y : (List UInt8) × Bool} (h : strings_CutPrefix a0 a1 = some y) : Spec gP 96 [.d (.str a0),.d (.str a1)] (.tuple [.d (.str y.1),.d (.bool y.2)]) := by
 refine spec_mir Tryz.func96 rfl (by kernel_rfl) (by kernel_rfl) (fun y : (List UInt8) × Bool=>.tuple [.d (.str y.1),.d (.bool y.2)]) ?_ h
 unfold strings_CutPrefix
 simp only [List.replicate,List.length,nS,nA,Tryz.ntmps96,SV]
 refine .sR fun e h=>?_
 simp only [seval,EMT]
 refine mU e (.seqK (.bind fun y1 hy1=>.region fun e h=>?_)) h
 simp only [seval,EMT]
 refine SpecS.by (stringslite_CutPrefix_spec hy1) (by simp only [seval,FMT]) ?_
 simp only [seval,EMT]
 refine mU e (.ret fun e h=>?_) h
 cases h
 simp only [seval,FMT,Tryz.results96]
def stringslite_Index (a0 : (List UInt8)) (a1 : (List UInt8)) : Option Int := if (((a1.length : Int) == 0) || (a1 == a0)) = true then some 0 else if ((a1.length : Int) == 1) = true then bindO (gt a1 0) fun (c1 : UInt8)=>bindO (stringslite_IndexByte a0 (c1.toNat : Int)) fun (y1 : Int)=>some y1 else if (decide ((a1.length : Int) ≥ (a0.length : Int))) = true then some (-1) else none
theorem stringslite_Index_spec {a0 : (List UInt8)} {a1 : (List UInt8)} {y : Int} (h : stringslite_Index a0 a1 = some y) : Spec gP 65 [.d (.str a0),.d (.str a1)] (.d (.int .i64 y)) := by
 refine spec_mir Tryz.func65 rfl (by kernel_rfl) (by kernel_rfl) (fun y : Int=>.d (.int .i64 y)) ?_ h
 unfold stringslite_Index
 simp only [List.replicate,List.length,nS,nA,Tryz.ntmps65,SV]
 refine .sR fun e h=>?_
 simp only [seval,EMT]
 refine mU e (.sR fun e h=>?_) h
 simp only [seval,EMT,und_9]
 refine mU e (.seqK (.block (.seqK (.joinV ([.d (.str a0),.d (.str a1),U,U,U,.d (.int .i64 (a1.length : Int)),U,U,U,U,U,U,U,U,U,U,.d (.bool (((a1.length : Int) == 0) || (a1 == a0)))] ++ us 126) ⟨[],[]⟩ rfl ?_ ?_)))) h
 refine SWs.region ?_
 rcases Bool.eq_false_or_eq_true ((a1.length : Int) == 0) with hb7 | hb7
 simp only [seval,EMT,SL,PB,hb7]
 simp only [seval,EMT,SL,PB,hb7]
 refine Mir.toK (.cond rfl (fun hb13=>?_) (fun hb13=>?_))
 refine .sR fun e h=>?_
 simp only [seval,EMT]
 refine mU e (.ret fun e h=>?_) h
 cases h
 simp only [seval,FMT,Tryz.results65]
 refine .sR fun e h=>?_
 simp only [seval,EMT]
 refine mU e (.cond rfl (fun hb18=>?_) (fun hb18=>?_)) h
 refine .seqK (.bind fun c1 q19=>?_)
 replace q19 := gt_ok q19
 simp only [Int.reduceToNat,Int.reduceLT,Nat.sub_zero,dp0] at q19
 refine .bind fun y1 hy20=>.region fun e h=>?_
 simp only [seval,EMT,und_9,q19]
 refine SpecS.by (stringslite_IndexByte_spec hy20) (by simp only [seval,FMT]) ?_
 simp only [seval,EMT]
 refine mU e (.ret fun e h=>?_) h
 cases h
 simp only [seval,FMT,Tryz.results65]
 refine .sR fun e h=>?_
 simp only [seval,EMT,und_9]
 refine mU e (.cond rfl (fun hb22=>?_) (fun hb22=>?_)) h
 refine .sR fun e h=>?_
 simp only [seval,EMT]
 refine mU e (.ret fun e h=>?_) h
 cases h
 simp only [seval,FMT,Tryz.results65]
 exact Mir.no
def stringslite_Cut (a0 : (List UInt8)) (a1 : (List UInt8)) : Option ((List UInt8) × (List UInt8) × Bool) := bindO (stringslite_Index a0 a1) fun (y1 : Int)=>if (decide (y1 ≥ 0)) = true then bindO (cutT a0 y1) fun (s1 : (List UInt8))=>bindO (cutF a0 (IntKind.i64.wrap (y1 + (a1.length : Int)))) fun (s2 : (List UInt8))=>some (s1,s2,true) else some (a0,[],false)
theorem stringslite_Cut_spec {a0 : (List UInt8)} {a1 : (List UInt8)} {y : (List UInt8) × (List UInt8) × Bool} (h : stringslite_Cut a0 a1 = some y) : Spec gP 48 [.d (.str a0),.d (.str a1)] (.tuple [.d (.str y.1),.d (.str y.2.1),.d (.bool y.2.2)]) := by
 refine spec_mir Tryz.func48 rfl (by kernel_rfl) (by kernel_rfl) (fun y : (List UInt8) × (List UInt8) × Bool=>.tuple [.d (.str y.1),.d (.str y.2.1),.d (.bool y.2.2)]) ?_ h
 unfold stringslite_Cut
 simp only [List.replicate,List.length,nS,nA,Tryz.ntmps48,SV]
 refine .sR fun e h=>?_
 simp only [seval,EMT]
 refine mU e (.seqK (.seqK (.bind fun y1 hy1=>.region fun e h=>?_))) h
 simp only [seval,EMT]
 refine SpecS.by (stringslite_Index_spec hy1) (by simp only [seval,FMT]) ?_
 simp only [seval,EMT]
 refine mU e (.sR fun e h=>?_) h
 simp only [seval,EMT]
 refine mU e (.cond rfl (fun hb5=>?_) (fun hb5=>?_)) h
 refine .seqK (.bind fun s1 q6=>?_)
 replace q6 := cutT_ok q6
 refine .bind fun s2 q7=>?_
 replace q7 := cutF_ok q7
 refine .regionD [] (by kernel_rfl) fun e h=>?_
 simp only [seval,EMT,SB,und_9,q6,Nat.le_refl,and_true,true_and,dm,tm,q7]
 refine mU e (.ret fun e h=>?_) h
 cases h
 simp only [seval,FMT,Tryz.results48]
 refine .skip (Mir.toK (.sR fun e h=>?_))
 simp only [seval,EMT]
 refine mU e (.ret fun e h=>?_) h
 cases h
 simp only [seval,FMT,Tryz.results48]
def strings_Cut (a0 : (List UInt8)) (a1 : (List UInt8)) : Option ((List UInt8) × (List UInt8) × Bool) := bindO (stringslite_Cut a0 a1) fun (y1 : (List UInt8) × (List UInt8) × Bool)=>some (y1.1,y1.2.1,y1.2.2)
theorem strings_Cut_spec {a0 : (List UInt8)} {a1 : (List UInt8)} {y : (List UInt8) × (List UInt8) × Bool} (h : strings_Cut a0 a1 = some y) : Spec gP 33 [.d (.str a0),.d (.str a1)] (.tuple [.d (.str y.1),.d (.str y.2.1),.d (.bool y.2.2)]) := by
 refine spec_mir Tryz.func33 rfl (by kernel_rfl) (by kernel_rfl) (fun y : (List UInt8) × (List UInt8) × Bool=>.tuple [.d (.str y.1),.d (.str y.2.1),.d (.bool y.2.2)]) ?_ h
 unfold strings_Cut
 simp only [List.replicate,List.length,nS,nA,Tryz.ntmps33,SV]
 refine .sR fun e h=>?_
 simp only [seval,EMT]
 refine mU e (.seqK (.bind fun y1 hy1=>.region fun e h=>?_)) h
 simp only [seval,EMT]
 refine SpecS.by (stringslite_Cut_spec hy1) (by simp only [seval,FMT]) ?_
 simp only [seval,EMT]
 refine mU e (.ret fun e h=>?_) h
 cases h
 simp only [seval,FMT,Tryz.results33]
def dc_plain (a0 : (List UInt8)) : Option Bool := bindO (if (a0 == []) = true then some false else bindO (strings_Trim a0 [48,49,50,51,52,53,54,55,56,57]) fun (y1 : (List UInt8))=>some (y1 == [])) fun (v1 : Bool)=>some v1
theorem dc_plain_spec {a0 : (List UInt8)} {y : Bool} (h : dc_plain a0 = some y) : Spec gP 97 [.d (.str a0)] (.d (.bool y)) := by
 refine spec_mir Tryz.func97 rfl (by kernel_rfl) (by kernel_rfl) (fun y : Bool=>.d (.bool y)) ?_ h
 unfold dc_plain
 simp only [List.replicate,List.length,nS,nA,Tryz.ntmps97,SV]
 refine .sR fun e h=>?_
 simp only [seval,EMT]
 refine mU e (.seqK (Mir.joinO (fun v1 : Bool=>([U,U,.d (.bool v1)] ++ us 7)) (fun v1=>⟨[],[]⟩) (fun _=>rfl) ?_ ?_)) h
 refine .ite (fun hb1=>?_) (fun hb1=>?_)
 refine .region fun e h=>?_
 simp only [seval,EMT,hb1]
 cases h
 simp only [seval,FMT,hb1]
 refine .bind fun y1 hy2=>.region fun e h=>?_
 simp only [seval,EMT,hb1]
 refine SpecS.by (strings_Trim_spec hy2) (by simp only [seval,FMT,hb1]) ?_
 simp only [seval,EMT,hb1]
 cases h
 simp only [seval,FMT,hb1]
 intro v1
 refine Mir.toK (.ret fun e h=>?_)
 cases h
 simp only [seval,FMT,Tryz.results97]
def dc_digits (a0 : (List UInt8)) : Option ((List UInt8) × Int × Bool) := if (decide ((a0.length : Int) > 65536)) = true then some ([],0,false) else bindO (strings_CutPrefix a0 [45]) fun (y1 : (List UInt8) × Bool)=>bindO (strings_Cut y1.1 [46]) fun (y2 : (List UInt8) × (List UInt8) × Bool)=>bindO (bindO (dc_plain y2.1) fun (y3 : Bool)=>if y3 = true then if (decide ((y2.1.length : Int) > 1)) = true then bindO (gt y2.1 0) fun (c1 : UInt8)=>if ((c1.toNat : Int) == 48) = true then some true else if y2.2.2 = true then bindO (dc_plain y2.2.1) fun (y4 : Bool)=>if y4 = true then some (decide ((y2.2.1.length : Int) > 30)) else some true else some false else if y2.2.2 = true then bindO (dc_plain y2.2.1) fun (y5 : Bool)=>if y5 = true then some (decide ((y2.2.1.length : Int) > 30)) else some true else some false else some true) fun (v1 : Bool)=>if v1 = true then some ([],0,false) else guardO (okStr y2.1 y2.2.1) ( bindO (strings_TrimLeft (y2.1 ++ y2.2.1) [48]) fun (y6 : (List UInt8))=>if (y6 == []) = true then some ([48],(y2.2.1.length : Int),!y1.2) else bindO (if y1.2 = true then guardO (okStr [45] y6) ( some ([45] ++ y6)) else some y6) fun (v2 : (List UInt8))=>some (v2,(y2.2.1.length : Int),true))
theorem dc_digits_spec {a0 : (List UInt8)} {y : (List UInt8) × Int × Bool} (h : dc_digits a0 = some y) : Spec gP 70 [.d (.str a0)] (.tuple [.d (.str y.1),.d (.int .i64 y.2.1),.d (.bool y.2.2)]) := by
 refine spec_mir Tryz.func70 rfl (by kernel_rfl) (by kernel_rfl) (fun y : (List UInt8) × Int × Bool=>.tuple [.d (.str y.1),.d (.int .i64 y.2.1),.d (.bool y.2.2)]) ?_ h
 unfold dc_digits
 simp only [List.replicate,List.length,nS,nA,Tryz.ntmps70,SV]
 refine .sR fun e h=>?_
 simp only [seval,EMT]
 refine mU e (.seqK (.sR fun e h=>?_)) h
 simp only [seval,EMT,und_9]
 refine mU e (.cond rfl (fun hb2=>?_) (fun hb2=>?_)) h
 refine .sR fun e h=>?_
 simp only [seval,EMT]
 refine mU e (.ret fun e h=>?_) h
 cases h
 simp only [seval,FMT,Tryz.results70]
 refine .skip (Mir.toK (.seqK (.bind fun y1 hy3=>.region fun e h=>?_)))
 simp only [seval,EMT]
 refine SpecS.by (strings_CutPrefix_spec hy3) (by simp only [seval,FMT]) ?_
 simp only [seval,EMT]
 refine mU e (.seqK (.bind fun y2 hy4=>.region fun e h=>?_)) h
 simp only [seval,EMT]
 refine SpecS.by (strings_Cut_spec hy4) (by simp only [seval,FMT]) ?_
 simp only [seval,EMT]
 refine mU e (.seqK (.seqK (Mir.joinO (fun v1 : Bool=>([U,U,U,U,U,U,.d (.bool y1.2),.d (.str y2.1),.d (.str y2.2.1),U,U,U,U,U,U,U,U,U,U,U,U,U,U,U,U,U,U,U,U,U,U,U,U,U,U,U,U,U,U,U,U,U,U,U,U,U,U,U,U,U,.d (.bool v1)] ++ us 16)) (fun v1=>⟨[],[]⟩) (fun _=>rfl) ?_ ?_))) h
 refine .bind fun y3 hy5=>.ite (fun hb6=>?_) (fun hb6=>?_)
 refine .ite (fun hb7=>?_) (fun hb7=>?_)
 refine .bind fun c1 q8=>?_
 replace q8 := gt_ok q8
 simp only [Int.reduceToNat,Int.reduceLT,Nat.sub_zero,dp0] at q8
 refine .ite (fun hb9=>?_) (fun hb9=>?_)
 refine .region fun e h=>?_
 simp only [seval,EMT,hb6,hb7,hb9]
 refine SpecS.by (dc_plain_spec hy5) (by simp only [seval,FMT,hb6,hb7,hb9]) ?_
 simp only [seval,EMT,und_9,q8,hb6,hb7,hb9]
 cases h
 simp only [seval,FMT,hb6,hb7,hb9]
 refine .ite (fun hb10=>?_) (fun hb10=>?_)
 refine .bind fun y4 hy11=>.ite (fun hb12=>?_) (fun hb12=>?_)
 refine .region fun e h=>?_
 simp only [seval,EMT,hb6,hb7,hb9,hb10,hb12]
 refine SpecS.by (dc_plain_spec hy5) (by simp only [seval,FMT,hb6,hb7,hb9,hb10,hb12]) ?_
 simp only [seval,EMT,und_9,q8,hb6,hb7,hb9,hb10,hb12]
 refine SpecS.by (dc_plain_spec hy11) (by simp only [seval,FMT,hb6,hb7,hb9,hb10,hb12]) ?_
 simp only [seval,EMT,und_9,hb6,hb7,hb9,hb10,hb12]
 cases h
 simp only [seval,FMT,hb6,hb7,hb9,hb10,hb12]
 refine .region fun e h=>?_
 simp only [seval,EMT,hb6,hb7,hb9,hb10,hb12]
 refine SpecS.by (dc_plain_spec hy5) (by simp only [seval,FMT,hb6,hb7,hb9,hb10,hb12]) ?_
 simp only [seval,EMT,und_9,q8,hb6,hb7,hb9,hb10,hb12]
 refine SpecS.by (dc_plain_spec hy11) (by simp only [seval,FMT,hb6,hb7,hb9,hb10,hb12]) ?_
 simp only [seval,EMT,hb6,hb7,hb9,hb10,hb12]
 cases h
 simp only [seval,FMT,hb6,hb7,hb9,hb10,hb12]
 refine .region fun e h=>?_
 simp only [seval,EMT,hb6,hb7,hb9,hb10]
 refine SpecS.by (dc_plain_spec hy5) (by simp only [seval,FMT,hb6,hb7,hb9,hb10]) ?_
 simp only [seval,EMT,und_9,q8,hb6,hb7,hb9,hb10]
 cases h
 simp only [seval,FMT,hb6,hb7,hb9,hb10]
 refine .ite (fun hb13=>?_) (fun hb13=>?_)
 refine .bind fun y5 hy14=>.ite (fun hb15=>?_) (fun hb15=>?_)
 refine .region fun e h=>?_
 simp only [seval,EMT,hb6,hb7,hb13,hb15]
 refine SpecS.by (dc_plain_spec hy5) (by simp only [seval,FMT,hb6,hb7,hb13,hb15]) ?_
 simp only [seval,EMT,und_9,hb6,hb7,hb13,hb15]
 refine SpecS.by (dc_plain_spec hy14) (by simp only [seval,FMT,hb6,hb7,hb13,hb15]) ?_
 simp only [seval,EMT,und_9,hb6,hb7,hb13,hb15]
 cases h
 simp only [seval,FMT,hb6,hb7,hb13,hb15]
 refine .region fun e h=>?_
 simp only [seval,EMT,hb6,hb7,hb13,hb15]
 refine SpecS.by (dc_plain_spec hy5) (by simp only [seval,FMT,hb6,hb7,hb13,hb15]) ?_
 simp only [seval,EMT,und_9,hb6,hb7,hb13,hb15]
 refine SpecS.by (dc_plain_spec hy14) (by simp only [seval,FMT,hb6,hb7,hb13,hb15]) ?_
 simp only [seval,EMT,hb6,hb7,hb13,hb15]
 cases h
 simp only [seval,FMT,hb6,hb7,hb13,hb15]
 refine .region fun e h=>?_
 simp only [seval,EMT,hb6,hb7,hb13]
 refine SpecS.by (dc_plain_spec hy5) (by simp only [seval,FMT,hb6,hb7,hb13]) ?_
 simp only [seval,EMT,und_9,hb6,hb7,hb13]
 cases h
 simp only [seval,FMT,hb6,hb7,hb13]
 refine .region fun e h=>?_
 simp only [seval,EMT,hb6]
 refine SpecS.by (dc_plain_spec hy5) (by simp only [seval,FMT,hb6]) ?_
 simp only [seval,EMT,hb6]
 cases h
 simp only [seval,FMT,hb6]
 intro v1
 refine Mir.toK (.cond rfl (fun hb17=>?_) (fun hb17=>?_))
 refine .sR fun e h=>?_
 simp only [seval,EMT]
 refine mU e (.ret fun e h=>?_) h
 cases h
 simp only [seval,FMT,Tryz.results70]
 refine .skip (Mir.toK (.seqK (.guard fun q18=>?_)))
 replace q18 := okStr_ok q18
 refine .bind fun y6 hy19=>.region fun e h=>?_
 simp only [seval,EMT,q18]
 refine SpecS.by (strings_TrimLeft_spec hy19) (by simp only [seval,FMT]) ?_
 simp only [seval,EMT]
 refine mU e (.seqK (.sR fun e h=>?_)) h
 simp only [seval,EMT]
 refine mU e (.cond rfl (fun hb21=>?_) (fun hb21=>?_)) h
 refine .sR fun e h=>?_
 simp only [seval,EMT,und_9]
 refine mU e (.ret fun e h=>?_) h
 cases h
 simp only [seval,FMT,Tryz.results70]
 refine .skip (Mir.toK (.seqK (.sR fun e h=>?_)))
 simp only [seval,EMT]
 refine mU e (Mir.joinO (fun v2 : (List UInt8)=>([U,U,U,U,U,U,U,U,.d (.str y2.2.1),U,.d (.str v2)] ++ us 56)) (fun v2=>⟨[],[]⟩) (fun _=>rfl) ?_ ?_) h
 refine .cond rfl (fun hb24=>?_) (fun hb24=>?_)
 refine .guard fun q25=>?_
 replace q25 := okStr_ok q25
 try simp only [lm,xNA,xCA,xAN,xLC,xLN,xAC,xAL,nA,Nat.zero_add] at q25
 refine .region fun e h=>?_
 simp only [seval,EMT,q25]
 cases h
 simp only [seval,FMT,Tryz.results70]
 refine .skip fun e h=>?_
 cases h
 simp only [seval,FMT,Tryz.results70]
 intro v2
 refine Mir.toK (.sR fun e h=>?_)
 simp only [seval,EMT,und_9]
 refine mU e (.ret fun e h=>?_) h
 cases h
 simp only [seval,FMT,Tryz.results70]
def bits_Mul64 (a0 : Int) (a1 : Int) : Option (Int × Int) := some (IntKind.u64.wrap ((IntKind.u64.wrap ((IntKind.u64.wrap ((shrI .u64 a0 32) * (shrI .u64 a1 32))) + (shrI .u64 (IntKind.u64.wrap ((IntKind.u64.wrap ((shrI .u64 a0 32) * (andI .u64 a1 4294967295))) + (shrI .u64 (IntKind.u64.wrap ((andI .u64 a0 4294967295) * (andI .u64 a1 4294967295))) 32))) 32))) + (shrI .u64 (IntKind.u64.wrap ((andI .u64 (IntKind.u64.wrap ((IntKind.u64.wrap ((shrI .u64 a0 32) * (andI .u64 a1 4294967295))) + (shrI .u64 (IntKind.u64.wrap ((andI .u64 a0 4294967295) * (andI .u64 a1 4294967295))) 32))) 4294967295) + (IntKind.u64.wrap ((andI .u64 a0 4294967295) * (shrI .u64 a1 32))))) 32)),IntKind.u64.wrap (a0 * a1))
theorem bits_Mul64_spec {a0 : Int} {a1 : Int} {y : Int × Int} (h : bits_Mul64 a0 a1 = some y) : Spec gP 130 [.d (.int .u64 a0),.d (.int .u64 a1)] (.tuple [.d (.int .u64 y.1),.d (.int .u64 y.2)]) := by
 refine spec_mir Tryz.func130 rfl (by kernel_rfl) (by kernel_rfl) (fun y : Int × Int=>.tuple [.d (.int .u64 y.1),.d (.int .u64 y.2)]) ?_ h
 unfold bits_Mul64
 simp only [List.replicate,List.length,nS,nA,Tryz.ntmps130,SV]
 refine .sR fun e h=>?_
 simp only [seval,EMT]
 refine mU e (.sR fun e h=>?_) h
 simp only [seval,EMT]
 refine mU e (.sR fun e h=>?_) h
 simp only [seval,EMT]
 refine mU e (.sR fun e h=>?_) h
 simp only [seval,EMT]
 refine mU e (.sR fun e h=>?_) h
 simp only [seval,EMT]
 refine mU e (.sR fun e h=>?_) h
 simp only [seval,EMT]
 refine mU e (.sR fun e h=>?_) h
 simp only [seval,EMT]
 refine mU e (.sR fun e h=>?_) h
 simp only [seval,EMT]
 refine mU e (.sR fun e h=>?_) h
 simp only [seval,EMT]
 refine mU e (.sR fun e h=>?_) h
 simp only [seval,EMT]
 refine mU e (.sR fun e h=>?_) h
 simp only [seval,EMT]
 refine mU e (.sR fun e h=>?_) h
 simp only [seval,EMT]
 refine mU e (.ret fun e h=>?_) h
 cases h
 simp only [seval,FMT,Tryz.results130]
def bits_Mul (a0 : Int) (a1 : Int) : Option (Int × Int) := bindO (bits_Mul64 a0 a1) fun (y1 : Int × Int)=>some (y1.1,y1.2)
theorem bits_Mul_spec {a0 : Int} {a1 : Int} {y : Int × Int} (h : bits_Mul a0 a1 = some y) : Spec gP 99 [.d (.int .u64 a0),.d (.int .u64 a1)] (.tuple [.d (.int .u64 y.1),.d (.int .u64 y.2)]) := by
 refine spec_mir Tryz.func99 rfl (by kernel_rfl) (by kernel_rfl) (fun y : Int × Int=>.tuple [.d (.int .u64 y.1),.d (.int .u64 y.2)]) ?_ h
 unfold bits_Mul
 simp only [List.replicate,List.length,nS,nA,Tryz.ntmps99,SV]
 refine .sR fun e h=>?_
 simp only [seval,EMT]
 refine mU e (.seqK (.condF rfl (.skip (Mir.toK (.seqK (.bind fun y1 hy1=>.region fun e h=>?_)))))) h
 simp only [seval,EMT]
 refine SpecS.by (bits_Mul64_spec hy1) (by simp only [seval,FMT]) ?_
 simp only [seval,EMT]
 refine mU e (.sR fun e h=>?_) h
 simp only [seval,EMT]
 refine mU e (.ret fun e h=>?_) h
 cases h
 simp only [seval,FMT,Tryz.results99]
def strings_HasPrefix (a0 : (List UInt8)) (a1 : (List UInt8)) : Option Bool := bindO (stringslite_HasPrefix a0 a1) fun (y1 : Bool)=>some y1
theorem strings_HasPrefix_spec {a0 : (List UInt8)} {a1 : (List UInt8)} {y : Bool} (h : strings_HasPrefix a0 a1 = some y) : Spec gP 100 [.d (.str a0),.d (.str a1)] (.d (.bool y)) := by
 refine spec_mir Tryz.func100 rfl (by kernel_rfl) (by kernel_rfl) (fun y : Bool=>.d (.bool y)) ?_ h
 unfold strings_HasPrefix
 simp only [List.replicate,List.length,nS,nA,Tryz.ntmps100,SV]
 refine .sR fun e h=>?_
 simp only [seval,EMT]
 refine mU e (.seqK (.bind fun y1 hy1=>.region fun e h=>?_)) h
 simp only [seval,EMT]
 refine SpecS.by (stringslite_HasPrefix_spec hy1) (by simp only [seval,FMT]) ?_
 simp only [seval,EMT]
 refine mU e (.ret fun e h=>?_) h
 cases h
 simp only [seval,FMT,Tryz.results100]
def strings_Repeat (a0 : (List UInt8)) (a1 : Int) : Option (List UInt8) := if (a1 == 0) = true then some [] else if (a1 == 1) = true then some a0 else if (decide (a1 < 0)) = true then none else bindO (bits_Mul (IntKind.u64.wrap (a0.length : Int)) (IntKind.u64.wrap a1)) fun (y1 : Int × Int)=>if ((decide (y1.1 > 0)) || (decide (y1.2 > 9223372036854775807))) = true then none else if ((a0.length : Int) == 0) = true then some [] else bindO (gt a0 0) fun (c1 : UInt8)=>bindX (bindO (if ((c1.toNat : Int) == 32) = true then some ((c1.toNat : Int) == 32) else if ((c1.toNat : Int) == 45) = true then some ((c1.toNat : Int) == 45) else if ((c1.toNat : Int) == 48) = true then some ((c1.toNat : Int) == 48) else if ((c1.toNat : Int) == 61) = true then some ((c1.toNat : Int) == 61) else some ((c1.toNat : Int) == 9)) fun (v1 : Bool)=>if v1 = true then bindO (if (decide ((IntKind.i64.wrap y1.2) ≤ 128)) = true then bindO (strings_HasPrefix [32,32,32,32,32,32,32,32,32,32,32,32,32,32,32,32,32,32,32,32,32,32,32,32,32,32,32,32,32,32,32,32,32,32,32,32,32,32,32,32,32,32,32,32,32,32,32,32,32,32,32,32,32,32,32,32,32,32,32,32,32,32,32,32,32,32,32,32,32,32,32,32,32,32,32,32,32,32,32,32,32,32,32,32,32,32,32,32,32,32,32,32,32,32,32,32,32,32,32,32,32,32,32,32,32,32,32,32,32,32,32,32,32,32,32,32,32,32,32,32,32,32,32,32,32,32,32,32] a0) fun (y2 : Bool)=>some y2 else some false) fun (v2 : Bool)=>if v2 = true then bindO (cutT [32,32,32,32,32,32,32,32,32,32,32,32,32,32,32,32,32,32,32,32,32,32,32,32,32,32,32,32,32,32,32,32,32,32,32,32,32,32,32,32,32,32,32,32,32,32,32,32,32,32,32,32,32,32,32,32,32,32,32,32,32,32,32,32,32,32,32,32,32,32,32,32,32,32,32,32,32,32,32,32,32,32,32,32,32,32,32,32,32,32,32,32,32,32,32,32,32,32,32,32,32,32,32,32,32,32,32,32,32,32,32,32,32,32,32,32,32,32,32,32,32,32,32,32,32,32,32,32] (IntKind.i64.wrap y1.2)) fun (s1 : (List UInt8))=>some (.ret s1) else bindO (if (decide ((IntKind.i64.wrap y1.2) ≤ 128)) = true then bindO (strings_HasPrefix [45,45,45,45,45,45,45,45,45,45,45,45,45,45,45,45,45,45,45,45,45,45,45,45,45,45,45,45,45,45,45,45,45,45,45,45,45,45,45,45,45,45,45,45,45,45,45,45,45,45,45,45,45,45,45,45,45,45,45,45,45,45,45,45,45,45,45,45,45,45,45,45,45,45,45,45,45,45,45,45,45,45,45,45,45,45,45,45,45,45,45,45,45,45,45,45,45,45,45,45,45,45,45,45,45,45,45,45,45,45,45,45,45,45,45,45,45,45,45,45,45,45,45,45,45,45,45,45] a0) fun (y3 : Bool)=>some y3 else some false) fun (v3 : Bool)=>if v3 = true then bindO (cutT [45,45,45,45,45,45,45,45,45,45,45,45,45,45,45,45,45,45,45,45,45,45,45,45,45,45,45,45,45,45,45,45,45,45,45,45,45,45,45,45,45,45,45,45,45,45,45,45,45,45,45,45,45,45,45,45,45,45,45,45,45,45,45,45,45,45,45,45,45,45,45,45,45,45,45,45,45,45,45,45,45,45,45,45,45,45,45,45,45,45,45,45,45,45,45,45,45,45,45,45,45,45,45,45,45,45,45,45,45,45,45,45,45,45,45,45,45,45,45,45,45,45,45,45,45,45,45,45] (IntKind.i64.wrap y1.2)) fun (s2 : (List UInt8))=>some (.ret s2) else bindO (if (decide ((IntKind.i64.wrap y1.2) ≤ 64)) = true then bindO (strings_HasPrefix [48,48,48,48,48,48,48,48,48,48,48,48,48,48,48,48,48,48,48,48,48,48,48,48,48,48,48,48,48,48,48,48,48,48,48,48,48,48,48,48,48,48,48,48,48,48,48,48,48,48,48,48,48,48,48,48,48,48,48,48,48,48,48,48] a0) fun (y4 : Bool)=>some y4 else some false) fun (v4 : Bool)=>if v4 = true then bindO (cutT [48,48,48,48,48,48,48,48,48,48,48,48,48,48,48,48,48,48,48,48,48,48,48,48,48,48,48,48,48,48,48,48,48,48,48,48,48,48,48,48,48,48,48,48,48,48,48,48,48,48,48,48,48,48,48,48,48,48,48,48,48,48,48,48] (IntKind.i64.wrap y1.2)) fun (s3 : (List UInt8))=>some (.ret s3) else bindO (if (decide ((IntKind.i64.wrap y1.2) ≤ 128)) = true then bindO (strings_HasPrefix [61,61,61,61,61,61,61,61,61,61,61,61,61,61,61,61,61,61,61,61,61,61,61,61,61,61,61,61,61,61,61,61,61,61,61,61,61,61,61,61,61,61,61,61,61,61,61,61,61,61,61,61,61,61,61,61,61,61,61,61,61,61,61,61,61,61,61,61,61,61,61,61,61,61,61,61,61,61,61,61,61,61,61,61,61,61,61,61,61,61,61,61,61,61,61,61,61,61,61,61,61,61,61,61,61,61,61,61,61,61,61,61,61,61,61,61,61,61,61,61,61,61,61,61,61,61,61,61] a0) fun (y5 : Bool)=>some y5 else some false) fun (v5 : Bool)=>if v5 = true then bindO (cutT [61,61,61,61,61,61,61,61,61,61,61,61,61,61,61,61,61,61,61,61,61,61,61,61,61,61,61,61,61,61,61,61,61,61,61,61,61,61,61,61,61,61,61,61,61,61,61,61,61,61,61,61,61,61,61,61,61,61,61,61,61,61,61,61,61,61,61,61,61,61,61,61,61,61,61,61,61,61,61,61,61,61,61,61,61,61,61,61,61,61,61,61,61,61,61,61,61,61,61,61,61,61,61,61,61,61,61,61,61,61,61,61,61,61,61,61,61,61,61,61,61,61,61,61,61,61,61,61] (IntKind.i64.wrap y1.2)) fun (s4 : (List UInt8))=>some (.ret s4) else bindO (if (decide ((IntKind.i64.wrap y1.2) ≤ 64)) = true then bindO (strings_HasPrefix [9,9,9,9,9,9,9,9,9,9,9,9,9,9,9,9,9,9,9,9,9,9,9,9,9,9,9,9,9,9,9,9,9,9,9,9,9,9,9,9,9,9,9,9,9,9,9,9,9,9,9,9,9,9,9,9,9,9,9,9,9,9,9,9] a0) fun (y6 : Bool)=>some y6 else some false) fun (v6 : Bool)=>if v6 = true then bindO (cutT [9,9,9,9,9,9,9,9,9,9,9,9,9,9,9,9,9,9,9,9,9,9,9,9,9,9,9,9,9,9,9,9,9,9,9,9,9,9,9,9,9,9,9,9,9,9,9,9,9,9,9,9,9,9,9,9,9,9,9,9,9,9,9,9] (IntKind.i64.wrap y1.2)) fun (s5 : (List UInt8))=>some (.ret s5) else some (.go ()) else some (.go ())) fun (v7 : Unit)=>if (decide ((IntKind.i64.wrap y1.2) > 8192)) = true then guardO (!((a0.length : Int) == 0)) ( if ((IntKind.i64.wrap ((IntKind.i64.wrap (Int.tdiv 8192 (a0.length : Int))) * (a0.length : Int))) == 0) = true then none else none) else none
theorem strings_Repeat_spec {a0 : (List UInt8)} {a1 : Int} {y : (List UInt8)} (h : strings_Repeat a0 a1 = some y) : Spec gP 72 [.d (.str a0),.d (.int .i64 a1)] (.d (.str y)) := by
 refine spec_mir Tryz.func72 rfl (by kernel_rfl) (by kernel_rfl) (fun y : (List UInt8)=>.d (.str y)) ?_ h
 unfold strings_Repeat
 simp only [List.replicate,List.length,nS,nA,Tryz.ntmps72,SV]
 refine .sR fun e h=>?_
 simp only [seval,EMT,List.append_eq,List.cons_append,List.nil_append]
 refine mU e (.seqK (.sR fun e h=>?_)) h
 simp only [seval,EMT,List.append_eq,List.cons_append,List.nil_append]
 refine mU e (.block (.sR fun e h=>?_)) h
 simp only [seval,EMT,List.append_eq,List.cons_append,List.nil_append]
 refine mU e (.cond rfl (fun hb5=>?_) (fun hb5=>?_)) h
 refine .sR fun e h=>?_
 simp only [seval,EMT,List.append_eq,List.cons_append,List.nil_append]
 refine mU e (.ret fun e h=>?_) h
 cases h
 simp only [seval,FMT,List.append_eq,List.cons_append,List.nil_append,Tryz.results72]
 refine .sR fun e h=>?_
 simp only [seval,EMT,List.append_eq,List.cons_append,List.nil_append]
 refine mU e (.cond rfl (fun hb7=>?_) (fun hb7=>?_)) h
 refine .sR fun e h=>?_
 simp only [seval,EMT,List.append_eq,List.cons_append,List.nil_append]
 refine mU e (.ret fun e h=>?_) h
 cases h
 simp only [seval,FMT,List.append_eq,List.cons_append,List.nil_append,Tryz.results72]
 refine .skip (Mir.toB (Mir.toK (.seqK (.sR fun e h=>?_))))
 simp only [seval,EMT,List.append_eq,List.cons_append,List.nil_append]
 refine mU e (.cond rfl (fun hb9=>?_) (fun hb9=>?_)) h
 exact Mir.no
 refine .skip (Mir.toK (.seqK (.bind fun y1 hy10=>.region fun e h=>?_)))
 simp only [seval,EMT,und_9,und_3,und_112,List.append_eq,List.cons_append,List.nil_append]
 refine SpecS.by (bits_Mul_spec hy10) (by simp only [seval,FMT,List.append_eq,List.cons_append,List.nil_append]) ?_
 simp only [seval,EMT,List.append_eq,List.cons_append,List.nil_append]
 refine mU e (.seqK (.seqK (.joinV ([.d (.str a0),U,U,U,U,U,.d (.int .u64 y1.2),U,U,U,U,U,U,U,U,U,U,U,U,U,U,U,U,U,U,U,U,U,U,U,U,U,U,U,.d (.bool ((decide (y1.1 > 0)) || (decide (y1.2 > 9223372036854775807))))] ++ us 90) ⟨[],[]⟩ rfl ?_ ?_))) h
 refine SWs.region ?_
 rcases Bool.eq_false_or_eq_true (decide (y1.1 > 0)) with hb11 | hb11
 simp only [seval,EMT,SL,PB,hb11,List.append_eq,List.cons_append,List.nil_append]
 simp only [seval,EMT,SL,PB,hb11,List.append_eq,List.cons_append,List.nil_append]
 refine Mir.toK (.cond rfl (fun hb13=>?_) (fun hb13=>?_))
 exact Mir.no
 refine .skip (Mir.toK (.sR fun e h=>?_))
 simp only [seval,EMT,und_112,und_3,List.append_eq,List.cons_append,List.nil_append]
 refine mU e (.seqK (.sR fun e h=>?_)) h
 simp only [seval,EMT,und_9,List.append_eq,List.cons_append,List.nil_append]
 refine mU e (.cond rfl (fun hb15=>?_) (fun hb15=>?_)) h
 refine .sR fun e h=>?_
 simp only [seval,EMT,List.append_eq,List.cons_append,List.nil_append]
 refine mU e (.ret fun e h=>?_) h
 cases h
 simp only [seval,FMT,List.append_eq,List.cons_append,List.nil_append,Tryz.results72]
 refine .skip (Mir.toK (.seqK (.seqK (.bind fun c1 q16=>?_))))
 replace q16 := gt_ok q16
 simp only [Int.reduceToNat,Int.reduceLT,Nat.sub_zero,dp0] at q16
 refine .region fun e h=>?_
 simp only [seval,EMT,und_9,q16,List.append_eq,List.cons_append,List.nil_append]
 refine mU e (Mir.join (fun v7 : Unit=>([.d (.str a0),U,U,U,U,U,U,.d (.int .i64 (IntKind.i64.wrap y1.2))] ++ us 117)) (fun v7=>⟨[],[]⟩) (fun _=>rfl) ?_ ?_) h
 refine .block (.seqK (.sR fun e h=>?_))
 simp only [seval,EMT,List.append_eq,List.cons_append,List.nil_append]
 refine mU e (Mir.joinO (fun v1 : Bool=>([.d (.str a0),U,U,U,U,U,U,.d (.int .i64 (IntKind.i64.wrap y1.2)),U,U,U,U,U,U,U,U,U,U,U,U,U,U,U,U,U,U,U,U,U,U,U,U,U,U,U,U,U,U,U,U,U,U,U,.d (.bool v1)] ++ us 81)) (fun v1=>⟨[],[]⟩) (fun _=>rfl) ?_ ?_) h
 refine .cond rfl (fun hb50=>?_) (fun hb50=>?_)
 refine .skip fun e h=>?_
 cases h
 simp only [seval,FMT,List.append_eq,List.cons_append,List.nil_append,Tryz.results72]
 refine .sR fun e h=>?_
 simp only [seval,EMT,List.append_eq,List.cons_append,List.nil_append]
 refine mU e (.cond rfl (fun hb51=>?_) (fun hb51=>?_)) h
 refine .skip fun e h=>?_
 cases h
 simp only [seval,FMT,List.append_eq,List.cons_append,List.nil_append,Tryz.results72]
 refine .sR fun e h=>?_
 simp only [seval,EMT,List.append_eq,List.cons_append,List.nil_append]
 refine mU e (.cond rfl (fun hb52=>?_) (fun hb52=>?_)) h
 refine .skip fun e h=>?_
 cases h
 simp only [seval,FMT,List.append_eq,List.cons_append,List.nil_append,Tryz.results72]
 refine .sR fun e h=>?_
 simp only [seval,EMT,List.append_eq,List.cons_append,List.nil_append]
 refine mU e (.cond rfl (fun hb53=>?_) (fun hb53=>?_)) h
 refine .skip fun e h=>?_
 cases h
 simp only [seval,FMT,List.append_eq,List.cons_append,List.nil_append,Tryz.results72]
 refine .region fun e h=>?_
 simp only [seval,EMT,List.append_eq,List.cons_append,List.nil_append]
 cases h
 simp only [seval,FMT,List.append_eq,List.cons_append,List.nil_append,Tryz.results72]
 intro v1
 refine Mir.toK (.cond rfl (fun hb54=>?_) (fun hb54=>?_))
 refine .block (.seqK (Mir.joinO (fun v2 : Bool=>([.d (.str a0),U,U,U,U,U,U,.d (.int .i64 (IntKind.i64.wrap y1.2)),U,U,U,U,U,U,U,U,U,U,U,U,U,U,U,U,U,U,U,U,U,U,U,U,U,U,U,U,U,U,U,U,U,U,U,U,U,U,U,U,U,.d (.bool v2)] ++ us 75)) (fun v2=>⟨[],[]⟩) (fun _=>rfl) ?_ ?_))
 refine .ite (fun hb55=>?_) (fun hb55=>?_)
 refine .bind fun y2 hy56=>.region fun e h=>?_
 simp only [seval,EMT,List.append_eq,List.cons_append,List.nil_append,hb55]
 refine SpecS.by (strings_HasPrefix_spec hy56) (by simp only [seval,FMT,List.append_eq,List.cons_append,List.nil_append,hb55]) ?_
 simp only [seval,EMT,List.append_eq,List.cons_append,List.nil_append,hb55]
 cases h
 simp only [seval,FMT,List.append_eq,List.cons_append,List.nil_append,hb55]
 refine .region fun e h=>?_
 simp only [seval,EMT,List.append_eq,List.cons_append,List.nil_append,hb55]
 cases h
 simp only [seval,FMT,List.append_eq,List.cons_append,List.nil_append,hb55]
 intro v2
 refine Mir.toK (.cond rfl (fun hb57=>?_) (fun hb57=>?_))
 refine .seqK (.bind fun s1 q58=>?_)
 replace q58 := cutT_ok q58
 simp only [xLC,xLN,Nat.zero_add,nA] at q58
 refine .region fun e h=>?_
 simp only [seval,EMT,und_9,q58,Nat.le_refl,and_true,true_and,dm,tm,List.append_eq,List.cons_append,List.nil_append]
 refine mU e (.ret fun e h=>?_) h
 cases h
 simp only [seval,FMT,List.append_eq,List.cons_append,List.nil_append,Tryz.results72]
 refine .seqK (Mir.joinO (fun v3 : Bool=>([.d (.str a0),U,U,U,U,U,U,.d (.int .i64 (IntKind.i64.wrap y1.2)),U,U,U,U,U,U,U,U,U,U,U,U,U,U,U,U,U,U,U,U,U,U,U,U,U,U,U,U,U,U,U,U,U,U,U,U,U,U,U,U,U,U,U,U,U,U,U,U,U,U,.d (.bool v3)] ++ us 66)) (fun v3=>⟨[],[]⟩) (fun _=>rfl) ?_ ?_)
 refine .ite (fun hb59=>?_) (fun hb59=>?_)
 refine .bind fun y3 hy60=>.region fun e h=>?_
 simp only [seval,EMT,List.append_eq,List.cons_append,List.nil_append,hb59]
 refine SpecS.by (strings_HasPrefix_spec hy60) (by simp only [seval,FMT,List.append_eq,List.cons_append,List.nil_append,hb59]) ?_
 simp only [seval,EMT,List.append_eq,List.cons_append,List.nil_append,hb59]
 cases h
 simp only [seval,FMT,List.append_eq,List.cons_append,List.nil_append,hb59]
 refine .region fun e h=>?_
 simp only [seval,EMT,List.append_eq,List.cons_append,List.nil_append,hb59]
 cases h
 simp only [seval,FMT,List.append_eq,List.cons_append,List.nil_append,hb59]
 intro v3
 refine Mir.toK (.cond rfl (fun hb61=>?_) (fun hb61=>?_))
 refine .seqK (.bind fun s2 q62=>?_)
 replace q62 := cutT_ok q62
 simp only [xLC,xLN,Nat.zero_add,nA] at q62
 refine .region fun e h=>?_
 simp only [seval,EMT,und_9,q62,Nat.le_refl,and_true,true_and,dm,tm,List.append_eq,List.cons_append,List.nil_append]
 refine mU e (.ret fun e h=>?_) h
 cases h
 simp only [seval,FMT,List.append_eq,List.cons_append,List.nil_append,Tryz.results72]
 refine .seqK (Mir.joinO (fun v4 : Bool=>([.d (.str a0),U,U,U,U,U,U,.d (.int .i64 (IntKind.i64.wrap y1.2)),U,U,U,U,U,U,U,U,U,U,U,U,U,U,U,U,U,U,U,U,U,U,U,U,U,U,U,U,U,U,U,U,U,U,U,U,U,U,U,U,U,U,U,U,U,U,U,U,U,U,U,U,U,U,U,U,U,U,U,.d (.bool v4)] ++ us 57)) (fun v4=>⟨[],[]⟩) (fun _=>rfl) ?_ ?_)
 refine .ite (fun hb63=>?_) (fun hb63=>?_)
 refine .bind fun y4 hy64=>.region fun e h=>?_
 simp only [seval,EMT,List.append_eq,List.cons_append,List.nil_append,hb63]
 refine SpecS.by (strings_HasPrefix_spec hy64) (by simp only [seval,FMT,List.append_eq,List.cons_append,List.nil_append,hb63]) ?_
 simp only [seval,EMT,List.append_eq,List.cons_append,List.nil_append,hb63]
 cases h
 simp only [seval,FMT,List.append_eq,List.cons_append,List.nil_append,hb63]
 refine .region fun e h=>?_
 simp only [seval,EMT,List.append_eq,List.cons_append,List.nil_append,hb63]
 cases h
 simp only [seval,FMT,List.append_eq,List.cons_append,List.nil_append,hb63]
 intro v4
 refine Mir.toK (.cond rfl (fun hb65=>?_) (fun hb65=>?_))
 refine .seqK (.bind fun s3 q66=>?_)
 replace q66 := cutT_ok q66
 simp only [xLC,xLN,Nat.zero_add,nA] at q66
 refine .region fun e h=>?_
 simp only [seval,EMT,und_9,q66,Nat.le_refl,and_true,true_and,dm,tm,List.append_eq,List.cons_append,List.nil_append]
 refine mU e (.ret fun e h=>?_) h
 cases h
 simp only [seval,FMT,List.append_eq,List.cons_append,List.nil_append,Tryz.results72]
 refine .seqK (Mir.joinO (fun v5 : Bool=>([.d (.str a0),U,U,U,U,U,U,.d (.int .i64 (IntKind.i64.wrap y1.2)),U,U,U,U,U,U,U,U,U,U,U,U,U,U,U,U,U,U,U,U,U,U,U,U,U,U,U,U,U,U,U,U,U,U,U,U,U,U,U,U,U,U,U,U,U,U,U,U,U,U,U,U,U,U,U,U,U,U,U,U,U,U,U,U,U,U,U,U,.d (.bool v5)] ++ us 48)) (fun v5=>⟨[],[]⟩) (fun _=>rfl) ?_ ?_)
 refine .ite (fun hb67=>?_) (fun hb67=>?_)
 refine .bind fun y5 hy68=>.region fun e h=>?_
 simp only [seval,EMT,List.append_eq,List.cons_append,List.nil_append,hb67]
 refine SpecS.by (strings_HasPrefix_spec hy68) (by simp only [seval,FMT,List.append_eq,List.cons_append,List.nil_append,hb67]) ?_
 simp only [seval,EMT,List.append_eq,List.cons_append,List.nil_append,hb67]
 cases h
 simp only [seval,FMT,List.append_eq,List.cons_append,List.nil_append,hb67]
 refine .region fun e h=>?_
 simp only [seval,EMT,List.append_eq,List.cons_append,List.nil_append,hb67]
 cases h
 simp only [seval,FMT,List.append_eq,List.cons_append,List.nil_append,hb67]
 intro v5
 refine Mir.toK (.cond rfl (fun hb69=>?_) (fun hb69=>?_))
 refine .seqK (.bind fun s4 q70=>?_)
 replace q70 := cutT_ok q70
 simp only [xLC,xLN,Nat.zero_add,nA] at q70
 refine .region fun e h=>?_
 simp only [seval,EMT,und_9,q70,Nat.le_refl,and_true,true_and,dm,tm,List.append_eq,List.cons_append,List.nil_append]
 refine mU e (.ret fun e h=>?_) h
 cases h
 simp only [seval,FMT,List.append_eq,List.cons_append,List.nil_append,Tryz.results72]
 refine .seqK (Mir.joinO (fun v6 : Bool=>([.d (.str a0),U,U,U,U,U,U,.d (.int .i64 (IntKind.i64.wrap y1.2)),U,U,U,U,U,U,U,U,U,U,U,U,U,U,U,U,U,U,U,U,U,U,U,U,U,U,U,U,U,U,U,U,U,U,U,U,U,U,U,U,U,U,U,U,U,U,U,U,U,U,U,U,U,U,U,U,U,U,U,U,U,U,U,U,U,U,U,U,U,U,U,U,U,U,U,U,U,.d (.bool v6)] ++ us 39)) (fun v6=>⟨[],[]⟩) (fun _=>rfl) ?_ ?_)
 refine .ite (fun hb71=>?_) (fun hb71=>?_)
 refine .bind fun y6 hy72=>.region fun e h=>?_
 simp only [seval,EMT,List.append_eq,List.cons_append,List.nil_append,hb71]
 refine SpecS.by (strings_HasPrefix_spec hy72) (by simp only [seval,FMT,List.append_eq,List.cons_append,List.nil_append,hb71]) ?_
 simp only [seval,EMT,List.append_eq,List.cons_append,List.nil_append,hb71]
 cases h
 simp only [seval,FMT,List.append_eq,List.cons_append,List.nil_append,hb71]
 refine .region fun e h=>?_
 simp only [seval,EMT,List.append_eq,List.cons_append,List.nil_append,hb71]
 cases h
 simp only [seval,FMT,List.append_eq,List.cons_append,List.nil_append,hb71]
 intro v6
 refine Mir.toK (.cond rfl (fun hb73=>?_) (fun hb73=>?_))
 refine .seqK (.bind fun s5 q74=>?_)
 replace q74 := cutT_ok q74
 simp only [xLC,xLN,Nat.zero_add,nA] at q74
 refine .region fun e h=>?_
 simp only [seval,EMT,und_9,q74,Nat.le_refl,and_true,true_and,dm,tm,List.append_eq,List.cons_append,List.nil_append]
 refine mU e (.ret fun e h=>?_) h
 cases h
 simp only [seval,FMT,List.append_eq,List.cons_append,List.nil_append,Tryz.results72]
 refine .skip fun e h=>?_
 cases h
 simp only [seval,FMT,List.append_eq,List.cons_append,List.nil_append,Tryz.results72]
 refine .skip fun e h=>?_
 cases h
 simp only [seval,FMT,List.append_eq,List.cons_append,List.nil_append,Tryz.results72]
 intro v7
 refine Mir.toK (.sR fun e h=>?_)
 simp only [seval,EMT,List.append_eq,List.cons_append,List.nil_append]
 refine mU e (.seqK (.sR fun e h=>?_)) h
 simp only [seval,EMT,List.append_eq,List.cons_append,List.nil_append]
 refine mU e (.cond rfl (fun hb75=>?_) (fun hb75=>?_)) h
 refine .seqK (.guard fun q76=>?_)
 replace q76 := ne_of q76
 refine .region fun e h=>?_
 simp only [seval,EMT,und_9,q76,List.append_eq,List.cons_append,List.nil_append]
 refine mU e (.sR fun e h=>?_) h
 simp only [seval,EMT,List.append_eq,List.cons_append,List.nil_append]
 refine mU e (.cond rfl (fun hb77=>?_) (fun hb77=>?_)) h
 exact Mir.no
 exact Mir.no
 exact Mir.no
def dc_FromMillimetres (a0 : (List UInt8)) : Option (Int × Int) := bindO (dc_digits a0) fun (y1 : (List UInt8) × Int × Bool)=>if (!y1.2.2 || (decide (y1.2.1 > 3))) = true then some (0,2) else bindO (strings_Repeat [48] (IntKind.i64.wrap (3 - y1.2.1))) fun (y2 : (List UInt8))=>guardO (okStr y1.1 y2) ( bindO (strconv_ParseIntE (y1.1 ++ y2) 10 64) fun (y3 : Int × Bool)=>if (!y3.2 || ((decide (y3.1 > 10000000)) || (decide (y3.1 < (-10000000))))) = true then some (0,11) else some (y3.1,0))
theorem dc_FromMillimetres_spec {a0 : (List UInt8)} {y : Int × Int} (h : dc_FromMillimetres a0 = some y) : Spec gP 51 [.d (.str a0)] (.tuple [.d (.int .i64 y.1),.d (.int .i64 y.2)]) := by
 refine spec_mir Tryz.func51 rfl (by kernel_rfl) (by kernel_rfl) (fun y : Int × Int=>.tuple [.d (.int .i64 y.1),.d (.int .i64 y.2)]) ?_ h
 unfold dc_FromMillimetres
 simp only [List.replicate,List.length,nS,nA,Tryz.ntmps51,SV]
 refine .sR fun e h=>?_
 simp only [seval,EMT]
 refine mU e (.seqK (.bind fun y1 hy1=>.region fun e h=>?_)) h
 simp only [seval,EMT]
 refine SpecS.by (dc_digits_spec hy1) (by simp only [seval,FMT]) ?_
 simp only [seval,EMT]
 refine mU e (.seqK (.seqK (.joinV ([U,U,U,U,.d (.str y1.1),.d (.int .i64 y1.2.1),U,U,U,U,U,U,U,U,U,U,U,U,U,U,.d (.bool (!y1.2.2 || (decide (y1.2.1 > 3))))] ++ us 20) ⟨[],[]⟩ rfl ?_ ?_))) h
 refine SWs.region ?_
 rcases Bool.eq_false_or_eq_true (y1.2.2) with hb2 | hb2
 simp only [seval,EMT,SL,PB,hb2]
 simp only [seval,EMT,SL,PB,hb2]
 refine Mir.toK (.cond rfl (fun hb4=>?_) (fun hb4=>?_))
 refine .sR fun e h=>?_
 simp only [seval,EMT]
 refine mU e (.ret fun e h=>?_) h
 cases h
 simp only [seval,FMT,Tryz.results51]
 refine .skip (Mir.toK (.seqK (.bind fun y2 hy5=>.guard fun q6=>?_)))
 replace q6 := okStr_ok q6
 refine .bind fun y3 hy7=>.region fun e h=>?_
 simp only [seval,EMT]
 refine SpecS.by (strings_Repeat_spec hy5) (by simp only [seval,FMT]) ?_
 simp only [seval,EMT,q6]
 refine SpecE.by (strconv_ParseIntE_spec hy7) rfl (fun t1 p1=>?_)
 simp only [seval,EMT]
 refine mU e (.seqK (.seqK (.joinV [U,U,U,U,U,U,U,.d (.int .i64 y3.1),U,U,U,U,U,U,U,U,U,U,U,U,U,U,U,U,U,U,U,U,U,U,U,U,U,U,U,U,U,U,U,.d (.bool (!y3.2 || ((decide (y3.1 > 10000000)) || (decide (y3.1 < (-10000000)))))),U] ⟨[],[]⟩ rfl ?_ ?_))) h
 refine SWs.region ?_
 rcases Bool.eq_false_or_eq_true (y3.2) with hb8 | hb8
 rcases Bool.eq_false_or_eq_true (decide (y3.1 > 10000000)) with hb9 | hb9
 simp only [seval,EMT,SL,PB,bx_ne,(nr (by kernel_rfl) : ifaceT Tryz.prog 59 = true),hb8,hb9]
 simp only [seval,EMT,SL,PB,bx_ne,(nr (by kernel_rfl) : ifaceT Tryz.prog 59 = true),hb8,hb9]
 simp only [seval,EMT,SL,PB,bx_ne,(nr (by kernel_rfl) : ifaceT Tryz.prog 59 = true),hb8]
 refine Mir.toK (.cond rfl (fun hb11=>?_) (fun hb11=>?_))
 refine .sR fun e h=>?_
 simp only [seval,EMT]
 refine mU e (.ret fun e h=>?_) h
 cases h
 simp only [seval,FMT,Tryz.results51]
 refine .skip (Mir.toK (.sR fun e h=>?_))
 simp only [seval,EMT]
 refine mU e (.ret fun e h=>?_) h
 cases h
 simp only [seval,FMT,Tryz.results51]
def dc_Millimetres (a0 : Int) : Option (List UInt8) := bindO (if (decide (a0 < 0)) = true then some ([45],IntKind.u64.wrap (0 - (IntKind.u64.wrap a0))) else some ([],IntKind.u64.wrap a0)) fun (v1 : (List UInt8) × Int)=>bindO (strconv_FormatUint (IntKind.u64.wrap (Int.tdiv v1.2 1000)) 10) fun (y1 : (List UInt8))=>guardO (okStr v1.1 y1) ( bindO (if ((Int.tmod v1.2 1000) != 0) = true then bindO (strconv_FormatUint (IntKind.u64.wrap (1000 + (Int.tmod v1.2 1000))) 10) fun (y2 : (List UInt8))=>bindO (cutF y2 1) fun (s1 : (List UInt8))=>bindO (strings_TrimRight s1 [48]) fun (y3 : (List UInt8))=>guardO (okStr [46] y3) ( guardO (okStr (v1.1 ++ y1) ([46] ++ y3)) ( some ((v1.1 ++ y1) ++ ([46] ++ y3)))) else some (v1.1 ++ y1)) fun (v2 : (List UInt8))=>some v2)
theorem dc_Millimetres_spec {a0 : Int} {y : (List UInt8)} (h : dc_Millimetres a0 = some y) : Spec gP 58 [.d (.int .i64 a0)] (.d (.str y)) := by
 refine spec_mir Tryz.func58 rfl (by kernel_rfl) (by kernel_rfl) (fun y : (List UInt8)=>.d (.str y)) ?_ h
 unfold dc_Millimetres
 simp only [List.replicate,List.length,nS,nA,Tryz.ntmps58,SV]
 refine .sR fun e h=>?_
 simp only [seval,EMT]
 refine mU e (.sR fun e h=>?_) h
 simp only [seval,EMT,und_2,und_104]
 refine mU e (.seqK (.sR fun e h=>?_)) h
 simp only [seval,EMT]
 refine mU e (Mir.joinO (fun v1 : (List UInt8) × Int=>([U,U,U,.d (.str v1.1),.d (.int .u64 v1.2)] ++ us 26)) (fun v1=>⟨[],[]⟩) (fun _=>rfl) ?_ ?_) h
 refine .cond rfl (fun hb2=>?_) (fun hb2=>?_)
 refine .region fun e h=>?_
 simp only [seval,EMT,und_2,und_104]
 cases h
 simp only [seval,FMT,Tryz.results58]
 refine .skip fun e h=>?_
 cases h
 simp only [seval,FMT,Tryz.results58]
 intro v1
 refine Mir.toK (.seqK (.bind fun y1 hy3=>.guard fun q4=>?_))
 replace q4 := okStr_ok q4
 refine .region fun e h=>?_
 simp only [seval,EMT]
 refine SpecS.by (strconv_FormatUint_spec hy3) (by simp only [seval,FMT]) ?_
 simp only [seval,EMT,q4]
 refine mU e (.seqK (.sR fun e h=>?_)) h
 simp only [seval,EMT]
 refine mU e (Mir.joinO (fun v2 : (List UInt8)=>([U,U,U,U,U,.d (.str v2)] ++ us 25)) (fun v2=>⟨[],[]⟩) (fun _=>rfl) ?_ ?_) h
 refine .cond rfl (fun hb11=>?_) (fun hb11=>?_)
 refine .bind fun y2 hy12=>.bind fun s1 q13=>?_
 replace q13 := cutF_ok q13
 simp only [Int.reduceToNat,Int.reduceLT,Nat.sub_zero,dp0] at q13
 refine .bind fun y3 hy14=>.guard fun q15=>?_
 replace q15 := okStr_ok q15
 try simp only [lm,xNA,xCA,xAN,xLC,xLN,xAC,xAL,nA,Nat.zero_add] at q15
 refine .guard fun q16=>?_
 replace q16 := okStr_ok q16
 try simp only [lm,xNA,xCA,xAN,xLC,xLN,xAC,xAL,nA,Nat.zero_add] at q16
 refine .region fun e h=>?_
 simp only [seval,EMT]
 refine SpecS.by (strconv_FormatUint_spec hy12) (by simp only [seval,FMT]) ?_
 simp only [seval,EMT,und_9,q13,Nat.le_refl,and_true,true_and,dm,tm]
 refine SpecS.by (strings_TrimRight_spec hy14) (by simp only [seval,FMT]) ?_
 simp only [seval,EMT,q15,q16]
 cases h
 simp only [seval,FMT,Tryz.results58]
 refine .skip fun e h=>?_
 cases h
 simp only [seval,FMT,Tryz.results58]
 intro v2
 refine Mir.toK (.sR fun e h=>?_)
 simp only [seval,EMT]
 refine mU e (.ret fun e h=>?_) h
 cases h
 simp only [seval,FMT,Tryz.results58]
end Go.Proofs.YthljcnchaopncaaGreatDoor
