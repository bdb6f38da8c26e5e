import Derived.Test.YtpdjgamdnjfmkaaGreatDoorGx
import Derived.Test.YtpdjgamdnjfmkaaGreatDoorTy
import Derived.Test.YtpdjgamdnjfmkaaGreatDoorGz
import Derived.Test.YtpdjgamdnjfmkaaGreatDoorLbe
import Derived.Test.YtpdjgamdnjfmkaaGreatDoorSzz
import Derived.Test.YtpdjgamdnjfmkaaGreatDoorMI
import Derived.Test.YtpdjgamdnjfmkaaGreatDoorMQ
import Derived.Test.YtpdjgamdnjfmkaaGreatDoorMB
namespace Go.Proofs.YtpdjgamdnjfmkaaGreatDoor
open Go.RowKit
open Nat renaming reduceAdd → nA, reduceSub → nS, reduceMul → nM, reduceEqDiff → nE, reduceLeDiff → nL, reduceLT → nT, reduceBEq → nB
open Int renaming reduceLT → iT, reduceToNat → iN, reduceEq → iE
set_option linter.unusedVariables false
set_option linter.unusedSimpArgs false
set_option maxRecDepth 100000
set_option maxHeartbeats 8000000
theorem EMT : type_of% (@SE) := @SE
theorem FMT : type_of% (@SF) := @SF
def stringslite_HasPrefix (a0 : (List UInt8)) (a1 : (List UInt8)) : Option Bool := bindO (if (decide ((a0.length : Int) ≥ (a1.length : Int))) = true then bindO (cutT a0 (a1.length : Int)) fun (s1 : (List UInt8)) => some (s1 == a1) else some false) fun (v1 : Bool) => some v1
theorem stringslite_HasPrefix_spec {a0 : (List UInt8)} {a1 : (List UInt8)} {y : Bool} (h : stringslite_HasPrefix a0 a1 = some y) : Spec gP 131 [.d (.str a0), .d (.str a1)] (.d (.bool y)) := by
 refine spec_mir Tryz.func131 rfl (by kernel_rfl) (by kernel_rfl) (fun y : Bool => .d (.bool y)) ?_ h
 unfold stringslite_HasPrefix
 simp only [List.replicate, List.length, nS, nA, Tryz.ntmps131, SV]
 refine .sR fun e h=>?_
 simp only [seval,EMT]
 refine mU e (.seqK (Mir.joinO (fun v1 : Bool=>([U,U,U,U,.d (.bool v1)] ++ us 13)) (fun v1=>⟨[],[]⟩) (fun _=>rfl) ?_ ?_)) h
 refine .ite (fun hb1=>?_) (fun hb1=>?_)
 refine .bind fun s1 q2=>?_
 replace q2 := cutT_ok q2
 refine .region fun e h=>?_
 simp only [seval,EMT,und_9,q2,Nat.le_refl,and_true,true_and,dm,tm,hb1]
 cases h
 simp only [seval,FMT,hb1]
 refine .region fun e h=>?_
 simp only [seval,EMT,und_9,hb1]
 cases h
 simp only [seval,FMT,hb1]
 intro v1
 refine Mir.toK (.ret fun e h=>?_)
 cases h
 simp only [seval,FMT,Tryz.results131]
def stringslite_CutPrefix (a0 : (List UInt8)) (a1 : (List UInt8)) : Option ((List UInt8) × Bool) := bindO (stringslite_HasPrefix a0 a1) fun (y1 : Bool) => if (!y1) = true then some (a0, false) else bindO (cutF a0 (a1.length : Int)) fun (s1 : (List UInt8)) => some (s1, true)
theorem stringslite_CutPrefix_spec {a0 : (List UInt8)} {a1 : (List UInt8)} {y : (List UInt8) × Bool} (h : stringslite_CutPrefix a0 a1 = some y) : Spec gP 105 [.d (.str a0), .d (.str a1)] (.tuple [.d (.str y.1), .d (.bool y.2)]) := by
 refine spec_mir Tryz.func105 rfl (by kernel_rfl) (by kernel_rfl) (fun y : (List UInt8) × Bool => .tuple [.d (.str y.1), .d (.bool y.2)]) ?_ h
 unfold stringslite_CutPrefix
 simp only [List.replicate, List.length, nS, nA, Tryz.ntmps105, SV]
 refine .sR fun e h=>?_
 simp only [seval,EMT]
 refine mU e (.seqK (.seqK (.bind fun y1 hy1=>.region fun e h=>?_))) h
 simp only [seval,EMT]
 refine SpecS.by (stringslite_HasPrefix_spec hy1) (by simp only [seval,FMT]) ?_
 simp only [seval,EMT]
 refine mU e (.cond rfl (fun hb3=>?_) (fun hb3=>?_)) h
 refine .sR fun e h=>?_
 simp only [seval,EMT]
 refine mU e (.ret fun e h=>?_) h
 cases h
 simp only [seval,FMT,Tryz.results105]
 refine .skip (Mir.toK (.seqK (.bind fun s1 q4=>?_)))
 replace q4 := cutF_ok q4
 refine .region fun e h=>?_
 simp only [seval,EMT,und_9,q4,Nat.le_refl,and_true,true_and,dm,tm]
 refine mU e (.ret fun e h=>?_) h
 cases h
 simp only [seval,FMT,Tryz.results105]
def strings_CutPrefix (a0 : (List UInt8)) (a1 : (List UInt8)) : Option ((List UInt8) × Bool) := bindO (stringslite_CutPrefix a0 a1) fun (y1 : (List UInt8) × Bool) => some (y1.1, y1.2)
theorem strings_CutPrefix_spec {a0 : (List UInt8)} {a1 : (List UInt8)} {y : (List UInt8) × Bool} (h : strings_CutPrefix a0 a1 = some y) : Spec gP 75 [.d (.str a0), .d (.str a1)] (.tuple [.d (.str y.1), .d (.bool y.2)]) := by
 refine spec_mir Tryz.func75 rfl (by kernel_rfl) (by kernel_rfl) (fun y : (List UInt8) × Bool => .tuple [.d (.str y.1), .d (.bool y.2)]) ?_ h
 unfold strings_CutPrefix
 simp only [List.replicate, List.length, nS, nA, Tryz.ntmps75, SV]
 refine .sR fun e h=>?_
 simp only [seval,EMT]
 refine mU e (.seqK (.bind fun y1 hy1=>.region fun e h=>?_)) h
 simp only [seval,EMT]
 refine SpecS.by (stringslite_CutPrefix_spec hy1) (by simp only [seval,FMT]) ?_
 simp only [seval,EMT]
 refine mU e (.ret fun e h=>?_) h
 cases h
 simp only [seval,FMT,Tryz.results75]
def stringslite_Index (a0 : (List UInt8)) (a1 : (List UInt8)) : Option Int := if (((a1.length : Int) == 0) || (a1 == a0)) = true then some 0 else if ((a1.length : Int) == 1) = true then bindO (gt a1 0) fun (c1 : UInt8) => bindO (stringslite_IndexByte a0 (c1.toNat : Int)) fun (y1 : Int) => some y1 else if (decide ((a1.length : Int) ≥ (a0.length : Int))) = true then some (-1) else none
theorem stringslite_Index_spec {a0 : (List UInt8)} {a1 : (List UInt8)} {y : Int} (h : stringslite_Index a0 a1 = some y) : Spec gP 85 [.d (.str a0), .d (.str a1)] (.d (.int .i64 y)) := by
 refine spec_mir Tryz.func85 rfl (by kernel_rfl) (by kernel_rfl) (fun y : Int => .d (.int .i64 y)) ?_ h
 unfold stringslite_Index
 simp only [List.replicate, List.length, nS, nA, Tryz.ntmps85, SV]
 refine .sR fun e h=>?_
 simp only [seval,EMT]
 refine mU e (.sR fun e h=>?_) h
 simp only [seval,EMT,und_9]
 refine mU e (.seqK (.block (.seqK (.joinV ([.d (.str a0),.d (.str a1),U,U,U,.d (.int .i64 (a1.length : Int)),U,U,U,U,U,U,U,U,U,U,.d (.bool (((a1.length : Int) == 0) || (a1 == a0)))] ++ us 126) ⟨[],[]⟩ rfl ?_ ?_)))) h
 refine SWs.region ?_
 rcases Bool.eq_false_or_eq_true ((a1.length : Int) == 0) with hb7 | hb7
 simp only [seval,EMT,SL,PB,hb7]
 simp only [seval,EMT,SL,PB,hb7]
 refine Mir.toK (.cond rfl (fun hb13=>?_) (fun hb13=>?_))
 refine .sR fun e h=>?_
 simp only [seval,EMT]
 refine mU e (.ret fun e h=>?_) h
 cases h
 simp only [seval,FMT,Tryz.results85]
 refine .sR fun e h=>?_
 simp only [seval,EMT]
 refine mU e (.cond rfl (fun hb18=>?_) (fun hb18=>?_)) h
 refine .seqK (.bind fun c1 q19=>?_)
 replace q19 := gt_ok q19
 simp only [Int.reduceToNat,Int.reduceLT,Nat.sub_zero,dp0] at q19
 refine .bind fun y1 hy20=>.region fun e h=>?_
 simp only [seval,EMT,und_9,q19]
 refine SpecS.by (stringslite_IndexByte_spec hy20) (by simp only [seval,FMT]) ?_
 simp only [seval,EMT]
 refine mU e (.ret fun e h=>?_) h
 cases h
 simp only [seval,FMT,Tryz.results85]
 refine .sR fun e h=>?_
 simp only [seval,EMT,und_9]
 refine mU e (.cond rfl (fun hb22=>?_) (fun hb22=>?_)) h
 refine .sR fun e h=>?_
 simp only [seval,EMT]
 refine mU e (.ret fun e h=>?_) h
 cases h
 simp only [seval,FMT,Tryz.results85]
 exact Mir.no
def stringslite_Cut (a0 : (List UInt8)) (a1 : (List UInt8)) : Option ((List UInt8) × (List UInt8) × Bool) := bindO (stringslite_Index a0 a1) fun (y1 : Int) => if (decide (y1 ≥ 0)) = true then bindO (cutT a0 y1) fun (s1 : (List UInt8)) => bindO (cutF a0 (IntKind.i64.wrap (y1 + (a1.length : Int)))) fun (s2 : (List UInt8)) => some (s1, s2, true) else some (a0, [], false)
theorem stringslite_Cut_spec {a0 : (List UInt8)} {a1 : (List UInt8)} {y : (List UInt8) × (List UInt8) × Bool} (h : stringslite_Cut a0 a1 = some y) : Spec gP 106 [.d (.str a0), .d (.str a1)] (.tuple [.d (.str y.1), .d (.str y.2.1), .d (.bool y.2.2)]) := by
 refine spec_mir Tryz.func106 rfl (by kernel_rfl) (by kernel_rfl) (fun y : (List UInt8) × (List UInt8) × Bool => .tuple [.d (.str y.1), .d (.str y.2.1), .d (.bool y.2.2)]) ?_ h
 unfold stringslite_Cut
 simp only [List.replicate, List.length, nS, nA, Tryz.ntmps106, SV]
 refine .sR fun e h=>?_
 simp only [seval,EMT]
 refine mU e (.seqK (.seqK (.bind fun y1 hy1=>.region fun e h=>?_))) h
 simp only [seval,EMT]
 refine SpecS.by (stringslite_Index_spec hy1) (by simp only [seval,FMT]) ?_
 simp only [seval,EMT]
 refine mU e (.sR fun e h=>?_) h
 simp only [seval,EMT]
 refine mU e (.cond rfl (fun hb5=>?_) (fun hb5=>?_)) h
 refine .seqK (.bind fun s1 q6=>?_)
 replace q6 := cutT_ok q6
 refine .bind fun s2 q7=>?_
 replace q7 := cutF_ok q7
 refine .regionD [] (by kernel_rfl) fun e h=>?_
 simp only [seval,EMT,SB,und_9,q6,Nat.le_refl,and_true,true_and,dm,tm,q7]
 refine mU e (.ret fun e h=>?_) h
 cases h
 simp only [seval,FMT,Tryz.results106]
 refine .skip (Mir.toK (.sR fun e h=>?_))
 simp only [seval,EMT]
 refine mU e (.ret fun e h=>?_) h
 cases h
 simp only [seval,FMT,Tryz.results106]
def strings_Cut (a0 : (List UInt8)) (a1 : (List UInt8)) : Option ((List UInt8) × (List UInt8) × Bool) := bindO (stringslite_Cut a0 a1) fun (y1 : (List UInt8) × (List UInt8) × Bool) => some (y1.1, y1.2.1, y1.2.2)
theorem strings_Cut_spec {a0 : (List UInt8)} {a1 : (List UInt8)} {y : (List UInt8) × (List UInt8) × Bool} (h : strings_Cut a0 a1 = some y) : Spec gP 76 [.d (.str a0), .d (.str a1)] (.tuple [.d (.str y.1), .d (.str y.2.1), .d (.bool y.2.2)]) := by
 refine spec_mir Tryz.func76 rfl (by kernel_rfl) (by kernel_rfl) (fun y : (List UInt8) × (List UInt8) × Bool => .tuple [.d (.str y.1), .d (.str y.2.1), .d (.bool y.2.2)]) ?_ h
 unfold strings_Cut
 simp only [List.replicate, List.length, nS, nA, Tryz.ntmps76, SV]
 refine .sR fun e h=>?_
 simp only [seval,EMT]
 refine mU e (.seqK (.bind fun y1 hy1=>.region fun e h=>?_)) h
 simp only [seval,EMT]
 refine SpecS.by (stringslite_Cut_spec hy1) (by simp only [seval,FMT]) ?_
 simp only [seval,EMT]
 refine mU e (.ret fun e h=>?_) h
 cases h
 simp only [seval,FMT,Tryz.results76]
def dc_plain (a0 : (List UInt8)) : Option Bool := bindO (if (a0 == []) = true then some false else bindO (strings_Trim a0 [48, 49, 50, 51, 52, 53, 54, 55, 56, 57]) fun (y1 : (List UInt8)) => some (y1 == [])) fun (v1 : Bool) => some v1
theorem dc_plain_spec {a0 : (List UInt8)} {y : Bool} (h : dc_plain a0 = some y) : Spec gP 77 [.d (.str a0)] (.d (.bool y)) := by
 refine spec_mir Tryz.func77 rfl (by kernel_rfl) (by kernel_rfl) (fun y : Bool => .d (.bool y)) ?_ h
 unfold dc_plain
 simp only [List.replicate, List.length, nS, nA, Tryz.ntmps77, SV]
 refine .sR fun e h=>?_
 simp only [seval,EMT]
 refine mU e (.seqK (Mir.joinO (fun v1 : Bool=>([U,U,.d (.bool v1)] ++ us 7)) (fun v1=>⟨[],[]⟩) (fun _=>rfl) ?_ ?_)) h
 refine .ite (fun hb1=>?_) (fun hb1=>?_)
 refine .region fun e h=>?_
 simp only [seval,EMT,hb1]
 cases h
 simp only [seval,FMT,hb1]
 refine .bind fun y1 hy2=>.region fun e h=>?_
 simp only [seval,EMT,hb1]
 refine SpecS.by (strings_Trim_spec hy2) (by simp only [seval,FMT,hb1]) ?_
 simp only [seval,EMT,hb1]
 cases h
 simp only [seval,FMT,hb1]
 intro v1
 refine Mir.toK (.ret fun e h=>?_)
 cases h
 simp only [seval,FMT,Tryz.results77]
def dc_digits (a0 : (List UInt8)) : Option ((List UInt8) × Int × Bool) := if (decide ((a0.length : Int) > 65536)) = true then some ([], 0, false) else bindO (strings_CutPrefix a0 [45]) fun (y1 : (List UInt8) × Bool) => bindO (strings_Cut y1.1 [46]) fun (y2 : (List UInt8) × (List UInt8) × Bool) => bindO (bindO (dc_plain y2.1) fun (y3 : Bool) => if y3 = true then if (decide ((y2.1.length : Int) > 1)) = true then bindO (gt y2.1 0) fun (c1 : UInt8) => if ((c1.toNat : Int) == 48) = true then some true else if y2.2.2 = true then bindO (dc_plain y2.2.1) fun (y4 : Bool) => if y4 = true then some (decide ((y2.2.1.length : Int) > 30)) else some true else some false else if y2.2.2 = true then bindO (dc_plain y2.2.1) fun (y5 : Bool) => if y5 = true then some (decide ((y2.2.1.length : Int) > 30)) else some true else some false else some true) fun (v1 : Bool) => if v1 = true then some ([], 0, false) else guardO (okStr y2.1 y2.2.1) ( bindO (strings_TrimLeft (y2.1 ++ y2.2.1) [48]) fun (y6 : (List UInt8)) => if (y6 == []) = true then some ([48], (y2.2.1.length : Int), !y1.2) else bindO (if y1.2 = true then guardO (okStr [45] y6) ( some ([45] ++ y6)) else some y6) fun (v2 : (List UInt8)) => some (v2, (y2.2.1.length : Int), true))
theorem dc_digits_spec {a0 : (List UInt8)} {y : (List UInt8) × Int × Bool} (h : dc_digits a0 = some y) : Spec gP 48 [.d (.str a0)] (.tuple [.d (.str y.1), .d (.int .i64 y.2.1), .d (.bool y.2.2)]) := by
 refine spec_mir Tryz.func48 rfl (by kernel_rfl) (by kernel_rfl) (fun y : (List UInt8) × Int × Bool => .tuple [.d (.str y.1), .d (.int .i64 y.2.1), .d (.bool y.2.2)]) ?_ h
 unfold dc_digits
 simp only [List.replicate, List.length, nS, nA, Tryz.ntmps48, SV]
 refine .sR fun e h=>?_
 simp only [seval,EMT]
 refine mU e (.seqK (.sR fun e h=>?_)) h
 simp only [seval,EMT,und_9]
 refine mU e (.cond rfl (fun hb2=>?_) (fun hb2=>?_)) h
 refine .sR fun e h=>?_
 simp only [seval,EMT]
 refine mU e (.ret fun e h=>?_) h
 cases h
 simp only [seval,FMT,Tryz.results48]
 refine .skip (Mir.toK (.seqK (.bind fun y1 hy3=>.region fun e h=>?_)))
 simp only [seval,EMT]
 refine SpecS.by (strings_CutPrefix_spec hy3) (by simp only [seval,FMT]) ?_
 simp only [seval,EMT]
 refine mU e (.seqK (.bind fun y2 hy4=>.region fun e h=>?_)) h
 simp only [seval,EMT]
 refine SpecS.by (strings_Cut_spec hy4) (by simp only [seval,FMT]) ?_
 simp only [seval,EMT]
 refine mU e (.seqK (.seqK (Mir.joinO (fun v1 : Bool=>([U,U,U,U,U,U,.d (.bool y1.2),.d (.str y2.1),.d (.str y2.2.1),U,U,U,U,U,U,U,U,U,U,U,U,U,U,U,U,U,U,U,U,U,U,U,U,U,U,U,U,U,U,U,U,U,U,U,U,U,U,U,U,U,.d (.bool v1)] ++ us 16)) (fun v1=>⟨[],[]⟩) (fun _=>rfl) ?_ ?_))) h
 refine .bind fun y3 hy5=>.ite (fun hb6=>?_) (fun hb6=>?_)
 refine .ite (fun hb7=>?_) (fun hb7=>?_)
 refine .bind fun c1 q8=>?_
 replace q8 := gt_ok q8
 simp only [Int.reduceToNat,Int.reduceLT,Nat.sub_zero,dp0] at q8
 refine .ite (fun hb9=>?_) (fun hb9=>?_)
 refine .region fun e h=>?_
 simp only [seval,EMT,hb6,hb7,hb9]
 refine SpecS.by (dc_plain_spec hy5) (by simp only [seval,FMT,hb6,hb7,hb9]) ?_
 simp only [seval,EMT,und_9,q8,hb6,hb7,hb9]
 cases h
 simp only [seval,FMT,hb6,hb7,hb9]
 refine .ite (fun hb10=>?_) (fun hb10=>?_)
 refine .bind fun y4 hy11=>.ite (fun hb12=>?_) (fun hb12=>?_)
 refine .region fun e h=>?_
 simp only [seval,EMT,hb6,hb7,hb9,hb10,hb12]
 refine SpecS.by (dc_plain_spec hy5) (by simp only [seval,FMT,hb6,hb7,hb9,hb10,hb12]) ?_
 simp only [seval,EMT,und_9,q8,hb6,hb7,hb9,hb10,hb12]
 refine SpecS.by (dc_plain_spec hy11) (by simp only [seval,FMT,hb6,hb7,hb9,hb10,hb12]) ?_
 simp only [seval,EMT,und_9,hb6,hb7,hb9,hb10,hb12]
 cases h
 simp only [seval,FMT,hb6,hb7,hb9,hb10,hb12]
 refine .region fun e h=>?_
 simp only [seval,EMT,hb6,hb7,hb9,hb10,hb12]
 refine SpecS.by (dc_plain_spec hy5) (by simp only [seval,FMT,hb6,hb7,hb9,hb10,hb12]) ?_
 simp only [seval,EMT,und_9,q8,hb6,hb7,hb9,hb10,hb12]
 refine SpecS.by (dc_plain_spec hy11) (by simp only [seval,FMT,hb6,hb7,hb9,hb10,hb12]) ?_
 simp only [seval,EMT,hb6,hb7,hb9,hb10,hb12]
 cases h
 simp only [seval,FMT,hb6,hb7,hb9,hb10,hb12]
 refine .region fun e h=>?_
 simp only [seval,EMT,hb6,hb7,hb9,hb10]
 refine SpecS.by (dc_plain_spec hy5) (by simp only [seval,FMT,hb6,hb7,hb9,hb10]) ?_
 simp only [seval,EMT,und_9,q8,hb6,hb7,hb9,hb10]
 cases h
 simp only [seval,FMT,hb6,hb7,hb9,hb10]
 refine .ite (fun hb13=>?_) (fun hb13=>?_)
 refine .bind fun y5 hy14=>.ite (fun hb15=>?_) (fun hb15=>?_)
 refine .region fun e h=>?_
 simp only [seval,EMT,hb6,hb7,hb13,hb15]
 refine SpecS.by (dc_plain_spec hy5) (by simp only [seval,FMT,hb6,hb7,hb13,hb15]) ?_
 simp only [seval,EMT,und_9,hb6,hb7,hb13,hb15]
 refine SpecS.by (dc_plain_spec hy14) (by simp only [seval,FMT,hb6,hb7,hb13,hb15]) ?_
 simp only [seval,EMT,und_9,hb6,hb7,hb13,hb15]
 cases h
 simp only [seval,FMT,hb6,hb7,hb13,hb15]
 refine .region fun e h=>?_
 simp only [seval,EMT,hb6,hb7,hb13,hb15]
 refine SpecS.by (dc_plain_spec hy5) (by simp only [seval,FMT,hb6,hb7,hb13,hb15]) ?_
 simp only [seval,EMT,und_9,hb6,hb7,hb13,hb15]
 refine SpecS.by (dc_plain_spec hy14) (by simp only [seval,FMT,hb6,hb7,hb13,hb15]) ?_
 simp only [seval,EMT,hb6,hb7,hb13,hb15]
 cases h
 simp only [seval,FMT,hb6,hb7,hb13,hb15]
 refine .region fun e h=>?_
 simp only [seval,EMT,hb6,hb7,hb13]
 refine SpecS.by (dc_plain_spec hy5) (by simp only [seval,FMT,hb6,hb7,hb13]) ?_
 simp only [seval,EMT,und_9,hb6,hb7,hb13]
 cases h
 simp only [seval,FMT,hb6,hb7,hb13]
 refine .region fun e h=>?_
 simp only [seval,EMT,hb6]
 refine SpecS.by (dc_plain_spec hy5) (by simp only [seval,FMT,hb6]) ?_
 simp only [seval,EMT,hb6]
 cases h
 simp only [seval,FMT,hb6]
 intro v1
 refine Mir.toK (.cond rfl (fun hb17=>?_) (fun hb17=>?_))
 refine .sR fun e h=>?_
 simp only [seval,EMT]
 refine mU e (.ret fun e h=>?_) h
 cases h
 simp only [seval,FMT,Tryz.results48]
 refine .skip (Mir.toK (.seqK (.guard fun q18=>?_)))
 replace q18 := okStr_ok q18
 refine .bind fun y6 hy19=>.region fun e h=>?_
 simp only [seval,EMT,q18]
 refine SpecS.by (strings_TrimLeft_spec hy19) (by simp only [seval,FMT]) ?_
 simp only [seval,EMT]
 refine mU e (.seqK (.sR fun e h=>?_)) h
 simp only [seval,EMT]
 refine mU e (.cond rfl (fun hb21=>?_) (fun hb21=>?_)) h
 refine .sR fun e h=>?_
 simp only [seval,EMT,und_9]
 refine mU e (.ret fun e h=>?_) h
 cases h
 simp only [seval,FMT,Tryz.results48]
 refine .skip (Mir.toK (.seqK (.sR fun e h=>?_)))
 simp only [seval,EMT]
 refine mU e (Mir.joinO (fun v2 : (List UInt8)=>([U,U,U,U,U,U,U,U,.d (.str y2.2.1),U,.d (.str v2)] ++ us 56)) (fun v2=>⟨[],[]⟩) (fun _=>rfl) ?_ ?_) h
 refine .cond rfl (fun hb24=>?_) (fun hb24=>?_)
 refine .guard fun q25=>?_
 replace q25 := okStr_ok q25
 try simp only [lm,xNA,xCA,xAN,xLC,xLN,xAC,xAL,nA,Nat.zero_add] at q25
 refine .region fun e h=>?_
 simp only [seval,EMT,q25]
 cases h
 simp only [seval,FMT,Tryz.results48]
 refine .skip fun e h=>?_
 cases h
 simp only [seval,FMT,Tryz.results48]
 intro v2
 refine Mir.toK (.sR fun e h=>?_)
 simp only [seval,EMT,und_9]
 refine mU e (.ret fun e h=>?_) h
 cases h
 simp only [seval,FMT,Tryz.results48]
def it_Parse (a0 : (List UInt8)) : Option (ApiInt × Int) := bindO (strings_CutPrefix a0 [45]) fun (y1 : (List UInt8) × Bool) => bindO (if (y1.1 == []) = true then some true else if (decide ((a0.length : Int) > 65536)) = true then some true else bindO (gt y1.1 0) fun (c1 : UInt8) => if ((c1.toNat : Int) == 48) = true then if (decide ((y1.1.length : Int) > 1)) = true then some true else some y1.2 else some false) fun (v1 : Bool) => if v1 = true then some (ApiInt.mk false [], 2) else bindX (guardO (okIdx y1.1) ( rangeX (fun (i1 : Nat) (c2 : UInt8) (v2 : Unit) => if ((decide ((c2.toNat : Int) < 48)) || (decide ((c2.toNat : Int) > 57))) = true then some (.ret (.ret (ApiInt.mk false [], 2))) else some (.go ())) (fun (v2 : Unit) => some (.go ())) y1.1 0 ())) fun (v3 : Unit) => bindO (loopX (fun (v4 : (List Int) × Int) => if (decide (v4.2 > 0)) = true then bindO (bindO (cutL y1.1 (mmI true 0 (IntKind.i64.wrap (v4.2 - 9))) v4.2) fun (s1 : (List UInt8)) => bindO (guardO (okIdx (bytesI s1)) ( rangeX (fun (i2 : Nat) (e1 : Int) (v5 : Int) => some (.go (IntKind.u32.wrap ((IntKind.u32.wrap (10 * v5)) + (IntKind.u32.wrap (IntKind.u8.wrap (e1 - 48))))))) (fun (v5 : Int) => some v5) (bytesI s1) 0 0)) fun (v6 : Int) => guardO (okLen (v4.1.length + 1)) ( some (v4.1 ++ [v6]))) fun (v7 : (List Int)) => some (.go (v7, IntKind.i64.wrap (v4.2 - 9))) else some (.ret v4.1)) fuel ([], (y1.1.length : Int))) fun (v8 : (List Int)) => bindO (it_signed y1.2 v8) fun (y2 : ApiInt) => some (y2, 0)
theorem it_Parse_spec {a0 : (List UInt8)} {y : ApiInt × Int} (h : it_Parse a0 = some y) : Spec gP 49 [.d (.str a0)] (.tuple [.agg [.d (.bool y.1.Neg), .d (.list (List.map (eInt .u32) y.1.Limbs))], .d (.int .i64 y.2)]) := by
 refine spec_mir Tryz.func49 rfl (by kernel_rfl) (by kernel_rfl) (fun y : ApiInt × Int => .tuple [.agg [.d (.bool y.1.Neg), .d (.list (List.map (eInt .u32) y.1.Limbs))], .d (.int .i64 y.2)]) ?_ h
 unfold it_Parse
 simp only [List.replicate, List.length, nS, nA, Tryz.ntmps49, SV]
 refine .sR fun e h=>?_
 simp only [seval,EMT,zero_51,eInt]
 refine mU e (.seqK (.bind fun y1 hy1=>.region fun e h=>?_)) h
 simp only [seval,EMT,eInt]
 refine SpecS.by (strings_CutPrefix_spec hy1) (by simp only [seval,FMT,eInt]) ?_
 simp only [seval,EMT,eInt]
 refine mU e (.seqK (.seqK (Mir.joinO (fun v1 : Bool=>([U,U,.ptr 0 0,U,.d (.str y1.1),.d (.bool y1.2),U,U,U,U,U,U,U,U,U,U,U,U,U,U,U,U,U,U,U,U,U,U,U,U,U,U,U,U,U,U,.d (.bool v1)] ++ us 50)) (fun v1=>⟨[[.d (.bool false),.nil]],[]⟩) (fun _=>rfl) ?_ ?_))) h
 refine .ite (fun hb2=>?_) (fun hb2=>?_)
 refine .region fun e h=>?_
 simp only [seval,EMT,hb2]
 cases h
 simp only [seval,FMT,hb2]
 refine .ite (fun hb3=>?_) (fun hb3=>?_)
 refine .region fun e h=>?_
 simp only [seval,EMT,und_9,hb2,hb3]
 cases h
 simp only [seval,FMT,hb2,hb3]
 refine .bind fun c1 q4=>?_
 replace q4 := gt_ok q4
 simp only [Int.reduceToNat,Int.reduceLT,Nat.sub_zero,dp0] at q4
 refine .ite (fun hb5=>?_) (fun hb5=>?_)
 refine .ite (fun hb6=>?_) (fun hb6=>?_)
 refine .region fun e h=>?_
 simp only [seval,EMT,und_9,q4,hb2,hb3,hb5,hb6]
 cases h
 simp only [seval,FMT,hb2,hb3,hb5,hb6]
 refine .region fun e h=>?_
 simp only [seval,EMT,und_9,q4,hb2,hb3,hb5,hb6]
 cases h
 simp only [seval,FMT,hb2,hb3,hb5,hb6]
 refine .region fun e h=>?_
 simp only [seval,EMT,und_9,q4,hb2,hb3,hb5]
 cases h
 simp only [seval,FMT,hb2,hb3,hb5]
 intro v1
 refine Mir.toK (.cond rfl (fun hb8=>?_) (fun hb8=>?_))
 refine .sR fun e h=>?_
 simp only [seval,EMT,zero_51,pl_51,sz_51]
 refine mU e (.ret fun e h=>?_) h
 cases h
 simp only [seval,FMT,Tryz.results49,ag_51,sz_51]
 refine .skip (Mir.toK (.seqK (.sR fun e h=>?_)))
 simp only [seval,EMT,und_9,eInt]
 refine mU e (Mir.join (fun v3 : Unit=>([U,U,.ptr 0 0,U,.d (.str y1.1),.d (.bool y1.2)] ++ us 81)) (fun v3=>⟨[[.d (.bool false),.nil]],[]⟩) (fun _=>rfl) ?_ ?_) h
 refine .block (.guard fun qg73=>Mir.range (fun (i1 : Nat) (v2 : Unit)=>([U,U,.ptr 0 0,U,.d (.str y1.1),.d (.bool y1.2),U,U,U,U,U,U,U,U,U,U,U,U,U,U,U,U,U,U,U,U,U,U,U,U,U,U,U,U,U,U,U,U,U,.d (.int .i64 (y1.1.length : Int)),.d (.int .i64 (i1 : Int))] ++ us 46)) (fun i1 v2=>⟨[[.d (.bool false),.nil]],[]⟩) qg73 (fun _ _=>rfl) (by simp only [seval,FMT,zNI]) (by simp only [seval,FMT,zNI]) ?_ ?_)
 intro i1 c2 v2 qr71
 refine .sR fun e h=>?_
 simp only [seval,EMT,qr71]
 refine mU e (.seqK (.condT rfl (.skip (Mir.toK (.seqK (.block (.sR fun e h=>?_))))))) h
 simp only [seval,EMT]
 refine mU e (.seqK (.joinV ([U,U,.ptr 0 0,U,.d (.str y1.1),.d (.bool y1.2),U,U,U,U,U,U,U,U,U,U,U,U,U,U,U,U,U,U,U,U,U,U,U,U,U,U,U,U,U,U,U,U,U,.d (.int .i64 (y1.1.length : Int)),.d (.int .i64 (i1 : Int)),U,U,U,U,U,U,U,U,U,U,U,.d (.bool ((decide ((c2.toNat : Int) < 48)) || (decide ((c2.toNat : Int) > 57))))] ++ us 34) ⟨[[.d (.bool false),.nil]],[]⟩ rfl ?_ ?_)) h
 refine SWs.region ?_
 rcases Bool.eq_false_or_eq_true (decide ((c2.toNat : Int) < 48)) with hb76 | hb76
 simp only [seval,EMT,SL,PB,und_9,Int.toNat_natCast,qr71,hb76]
 simp only [seval,EMT,SL,PB,und_9,Int.toNat_natCast,qr71,hb76]
 refine Mir.toK (.cond rfl (fun hb78=>?_) (fun hb78=>?_))
 refine .sR fun e h=>?_
 simp only [seval,EMT,zero_51,pl_51,sz_51]
 refine mU e (.ret fun e h=>?_) h
 cases h
 simp only [seval,FMT,Tryz.results49,ag_51,sz_51]
 refine .skip (Mir.toB (Mir.toK (.region fun e h=>?_)))
 simp only [seval,EMT]
 cases h
 simp only [seval,FMT,Tryz.results49,ag_51,sz_51,qr71]
 intro v2 qd72
 refine .sR fun e h=>?_
 simp only [seval,EMT,qd72]
 refine mU e (.seqK (.condF rfl (.exit fun e h=>?_))) h
 cases h
 simp only [seval,FMT,Tryz.results49,ag_51,sz_51]
 intro v3
 refine Mir.toK (.sR fun e h=>?_)
 simp only [seval,EMT,eInt]
 refine mU e (.seqK (.sR fun e h=>?_)) h
 simp only [seval,EMT,und_9,eInt]
 refine mU e (.gh [.slot 7 101] rfl (Mir.joinO (fun v8 : (List Int)=>([U,U,.ptr 0 0,U,U,.d (.bool y1.2),U,.own 0 (List.map (eInt .u32) v8)] ++ us 79)) (fun v8=>⟨[[.d (.bool false),.nil]],[(101,v8.length)]⟩) (fun _=>rfl) ?_ ?_)) h
 refine .block (Mir.loop (fun v4 : (List Int) × Int=>([U,U,.ptr 0 0,U,.d (.str y1.1),.d (.bool y1.2),U,.own 0 (List.map (eInt .u32) v4.1),.d (.int .i64 v4.2)] ++ us 78)) (fun v4=>⟨[[.d (.bool false),.nil]],[(101,v4.1.length)]⟩) (fun _=>rfl) (by simp only [seval,FMT,eInt]) (by simp only [seval,FMT,eInt]) fun v4=>.seqK (.sR fun e h=>?_))
 simp only [seval,EMT,eInt]
 refine mU e (.cond rfl (fun h1=>?_) (fun h1=>?_)) h
 refine .skip (Mir.toK (.seqK (Mir.joinO (fun v7 : (List Int)=>([U,U,.ptr 0 0,U,.d (.str y1.1),.d (.bool y1.2),U,.own 0 (List.map (eInt .u32) v7),.d (.int .i64 v4.2)] ++ us 78)) (fun v7=>⟨[[.d (.bool false),.nil]],[(101,v7.length)]⟩) (fun _=>rfl) ?_ ?_)))
 refine .block (.sR fun e h=>?_)
 simp only [seval,EMT,eInt]
 refine mU e (.seqK (.seqK (.bind fun s1 q1=>?_))) h
 replace q1 := cutL_ok q1
 refine .region fun e h=>?_
 simp only [seval,EMT,und_9,q1,Nat.le_refl,and_true,true_and,dm,tm,und_83,und_5,bytes_enc,eInt]
 refine mU e (Mir.joinO (fun v6 : Int=>([U,U,.ptr 0 0,U,.d (.str y1.1),.d (.bool y1.2),U,.own 0 (List.map (eInt .u32) v4.1),.d (.int .i64 v4.2),.d (.int .u32 v6)] ++ us 77)) (fun v6=>⟨[[.d (.bool false),.nil]],[(101,v4.1.length)]⟩) (fun _=>rfl) ?_ ?_) h
 refine .block (.guard fun q2=>Mir.range (fun (i2 : Nat) (v5 : Int)=>([U,U,.ptr 0 0,U,.d (.str y1.1),.d (.bool y1.2),U,.own 0 (List.map (eInt .u32) v4.1),.d (.int .i64 v4.2),.d (.int .u32 v5),U,U,U,U,U,U,U,U,U,U,U,U,U,U,U,U,U,U,U,U,U,U,U,U,U,U,U,U,U,U,U,U,U,U,U,U,U,U,U,U,U,U,U,U,U,U,U,U,U,U,U,U,U,U,U,U,U,.d (.list (List.map (eInt .u8) (bytesI s1))),.d (.int .i64 ((bytesI s1).length : Int)),.d (.int .i64 (i2 : Int))] ++ us 17)) (fun i2 v5=>⟨[[.d (.bool false),.nil]],[(101,v4.1.length)]⟩) q2 (fun _ _=>rfl) (by simp only [seval,FMT,eInt,zNI]) (by simp only [seval,FMT,eInt,zNI]) ?_ ?_)
 intro i2 e1 v5 q3
 refine .sR fun e h=>?_
 simp only [seval,EMT,q3,eInt]
 refine mU e (.seqK (.condT rfl (.skip (Mir.toK (.seqK (.block (.sR fun e h=>?_))))))) h
 simp only [seval,EMT,und_83,sz_5,q3,Int.toNat_natCast,ag_5,eInt]
 refine mU e (.region fun e h=>?_) h
 simp only [seval,EMT,und_5,und_101,eInt]
 refine mU e (.region fun e h=>?_) h
 simp only [seval,EMT,eInt]
 cases h
 simp only [seval,FMT,eInt,Tryz.results49,ag_51,sz_51,q3]
 intro v5 q5
 refine .sR fun e h=>?_
 simp only [seval,EMT,q5,eInt]
 refine mU e (.seqK (.condF rfl (.exit fun e h=>?_))) h
 cases h
 simp only [seval,FMT,eInt,Tryz.results49,ag_51,sz_51]
 intro v6
 refine Mir.toK (.guard fun q6=>.region fun e h=>?_)
 simp only [seval,EMT,und_49,sz_101,zero_101,(oL 1),app_49,al_eInt,q6,eInt]
 cases h
 simp only [seval,FMT,eInt,Tryz.results49,ag_51,sz_51]
 intro v7
 refine Mir.toK (.region fun e h=>?_)
 simp only [seval,EMT,eInt]
 cases h
 simp only [seval,FMT,eInt,Tryz.results49,ag_51,sz_51]
 refine .exit fun e h=>?_
 cases h
 simp only [seval,FMT,eInt,Tryz.results49,ag_51,sz_51]
 intro v8
 refine Mir.toK (.seqK (.bind fun y2 h2=>.region fun e h=>?_))
 simp only [seval,EMT,eInt]
 refine SpecS.by (it_signed_spec h2) (by simp only [seval,FMT,eInt]) ?_
 simp only [seval,EMT,sz_51,eInt]
 refine mU e (.ret fun e h=>?_) h
 cases h
 simp only [seval,FMT,eInt,Tryz.results49,ag_51,sz_51]
def dc_Parse (a0 : (List UInt8)) : Option (ApiRat × Int) := bindO (dc_digits a0) fun (y1 : (List UInt8) × Int × Bool) => if (!y1.2.2) = true then some (ApiRat.mk (ApiInt.mk false []) (ApiInt.mk false []), 2) else bindO (it_Parse y1.1) fun (y2 : ApiInt × Int) => if (y2.2 != 0) = true then some (ApiRat.mk (ApiInt.mk false []) (ApiInt.mk false []), 2) else bindO (dc_power y1.2.1) fun (y3 : ApiInt) => bindO (ra_Make y2.1 y3) fun (y4 : ApiRat × Int) => some (y4.1, y4.2)
theorem dc_Parse_spec {a0 : (List UInt8)} {y : ApiRat × Int} (h : dc_Parse a0 = some y) : Spec gP 27 [.d (.str a0)] (.tuple [.agg [.d (.bool y.1.Num.Neg), .d (.list (List.map (eInt .u32) y.1.Num.Limbs)), .d (.bool y.1.Den.Neg), .d (.list (List.map (eInt .u32) y.1.Den.Limbs))], .d (.int .i64 y.2)]) := by
 refine spec_mir Tryz.func27 rfl (by kernel_rfl) (by kernel_rfl) (fun y : ApiRat × Int => .tuple [.agg [.d (.bool y.1.Num.Neg), .d (.list (List.map (eInt .u32) y.1.Num.Limbs)), .d (.bool y.1.Den.Neg), .d (.list (List.map (eInt .u32) y.1.Den.Limbs))], .d (.int .i64 y.2)]) ?_ h
 unfold dc_Parse
 simp only [List.replicate, List.length, nS, nA, Tryz.ntmps27, SV]
 refine .sR fun e h=>?_
 simp only [seval,EMT,zero_53]
 refine mU e (.seqK (.bind fun y1 hy1=>.region fun e h=>?_)) h
 simp only [seval,EMT]
 refine SpecS.by (dc_digits_spec hy1) (by simp only [seval,FMT]) ?_
 simp only [seval,EMT]
 refine mU e (.seqK (.sR fun e h=>?_)) h
 simp only [seval,EMT]
 refine mU e (.cond rfl (fun hb3=>?_) (fun hb3=>?_)) h
 refine .sR fun e h=>?_
 simp only [seval,EMT,zero_53,pl_53,sz_53]
 refine mU e (.ret fun e h=>?_) h
 cases h
 simp only [seval,FMT,Tryz.results27,ag_53,sz_53]
 refine .skip (Mir.toK (.seqK (.bind fun y2 hy4=>.region fun e h=>?_)))
 simp only [seval,EMT]
 refine SpecS.by (it_Parse_spec hy4) (by simp only [seval,FMT]) ?_
 simp only [seval,EMT,zero_51,sz_51]
 refine mU e (.seqK (.sR fun e h=>?_)) h
 simp only [seval,EMT]
 refine mU e (.cond rfl (fun hb6=>?_) (fun hb6=>?_)) h
 refine .sR fun e h=>?_
 simp only [seval,EMT,zero_53,pl_53,sz_53]
 refine mU e (.ret fun e h=>?_) h
 cases h
 simp only [seval,FMT,Tryz.results27,ag_53,sz_53]
 refine .skip (Mir.toK (.seqK (.bind fun y3 hy7=>.bind fun y4 hy8=>.regionD [] (by kernel_rfl) fun e h=>?_)))
 simp only [seval,EMT,SB,ag_51,sz_51]
 refine Spec.by (dc_power_spec hy7) (by simp only [seval,FMT]) ?_
 simp only [seval,EMT,SB]
 refine Spec.by (ra_Make_spec hy8) (by simp only [seval,FMT]) ?_
 simp only [seval,EMT,SB,sz_53]
 refine mU e (.ret fun e h=>?_) h
 cases h
 simp only [seval,FMT,Tryz.results27,ag_53,sz_53]
def r06_Places (a0 : (List UInt8)) : Option Int := if (decide ((a0.length : Int) > 65536)) = true then some (-1) else bindO (if (decide ((a0.length : Int) > 0)) = true then bindO (gt a0 0) fun (c1 : UInt8) => some ((c1.toNat : Int) == 45) else some false) fun (v1 : Bool) => bindO (if v1 = true then bindO (cutF a0 1) fun (s1 : (List UInt8)) => some s1 else some a0) fun (v2 : (List UInt8)) => bindX (guardO (okIdx v2) ( rangeX (fun (i1 : Nat) (c2 : UInt8) (v3 : Int × Bool) => bindX (if (((c2.toNat : Int) == 46) && (v3.1 == (v2.length : Int))) = true then some (.go ((i1 : Int), v3.2)) else if ((decide ((c2.toNat : Int) < 48)) || (decide ((c2.toNat : Int) > 57))) = true then some (.ret (.ret (.ret (-1)))) else some (.go (v3.1, v3.2 || ((c2.toNat : Int) != 48)))) fun (v4 : Int × Bool) => some (.go (v4.1, v4.2))) (fun (v3 : Int × Bool) => some (.go (v3.1, v3.2))) v2 0 ((v2.length : Int), false))) fun (v5 : Int × Bool) => bindO (if (v5.1 == 0) = true then some true else if (decide (v5.1 > 1)) = true then bindO (gt v2 0) fun (c3 : UInt8) => if ((c3.toNat : Int) == 48) = true then some true else if (decide ((a0.length : Int) > (v2.length : Int))) = true then some (!v5.2) else some false else if (decide ((a0.length : Int) > (v2.length : Int))) = true then some (!v5.2) else some false) fun (v6 : Bool) => if v6 = true then some (-1) else if (v5.1 == (v2.length : Int)) = true then some 0 else if ((decide ((IntKind.i64.wrap ((IntKind.i64.wrap ((v2.length : Int) - v5.1)) - 1)) < 1)) || (decide ((IntKind.i64.wrap ((IntKind.i64.wrap ((v2.length : Int) - v5.1)) - 1)) > 30))) = true then some (-1) else some (IntKind.i64.wrap ((IntKind.i64.wrap ((v2.length : Int) - v5.1)) - 1))
theorem r06_Places_spec {a0 : (List UInt8)} {y : Int} (h : r06_Places a0 = some y) : Spec gP 55 [.d (.str a0)] (.d (.int .i64 y)) := by
 refine spec_mir Tryz.func55 rfl (by kernel_rfl) (by kernel_rfl) (fun y : Int => .d (.int .i64 y)) ?_ h
 unfold r06_Places
 simp only [List.replicate, List.length, nS, nA, Tryz.ntmps55, SV]
 refine .sR fun e h=>?_
 simp only [seval,EMT]
 refine mU e (.seqK (.sR fun e h=>?_)) h
 simp only [seval,EMT,und_9]
 refine mU e (.cond rfl (fun hb2=>?_) (fun hb2=>?_)) h
 refine .sR fun e h=>?_
 simp only [seval,EMT]
 refine mU e (.ret fun e h=>?_) h
 cases h
 simp only [seval,FMT,Tryz.results55]
 refine .skip (Mir.toK (.sR fun e h=>?_))
 simp only [seval,EMT]
 refine mU e (.seqK (.seqK (Mir.joinO (fun v1 : Bool=>([.d (.str a0),U,U,.d (.str a0),U,U,U,U,U,U,U,U,U,U,U,U,U,U,U,.d (.bool v1)] ++ us 76)) (fun v1=>⟨[],[]⟩) (fun _=>rfl) ?_ ?_))) h
 refine .ite (fun hb3=>?_) (fun hb3=>?_)
 refine .bind fun c1 q4=>?_
 replace q4 := gt_ok q4
 simp only [Int.reduceToNat,Int.reduceLT,Nat.sub_zero,dp0] at q4
 refine .region fun e h=>?_
 simp only [seval,EMT,und_9,q4,hb3]
 cases h
 simp only [seval,FMT,hb3]
 refine .region fun e h=>?_
 simp only [seval,EMT,und_9,hb3]
 cases h
 simp only [seval,FMT,hb3]
 intro v1
 refine Mir.toK (Mir.joinO (fun v2 : (List UInt8)=>([.d (.str a0),U,U,.d (.str v2)] ++ us 92)) (fun v2=>⟨[],[]⟩) (fun _=>rfl) ?_ ?_)
 refine .cond rfl (fun hb7=>?_) (fun hb7=>?_)
 refine .bind fun s1 q8=>?_
 replace q8 := cutF_ok q8
 simp only [Int.reduceToNat,Int.reduceLT,Nat.sub_zero,dp0] at q8
 refine .region fun e h=>?_
 simp only [seval,EMT,und_9,q8,Nat.le_refl,and_true,true_and,dm,tm]
 cases h
 simp only [seval,FMT,Tryz.results55]
 refine .skip fun e h=>?_
 cases h
 simp only [seval,FMT,Tryz.results55]
 intro v2
 refine Mir.toK (.sR fun e h=>?_)
 simp only [seval,EMT,und_9]
 refine mU e (.sR fun e h=>?_) h
 simp only [seval,EMT]
 refine mU e (.seqK (.sR fun e h=>?_)) h
 simp only [seval,EMT]
 refine mU e (Mir.join (fun v5 : Int × Bool=>([.d (.str a0),U,U,.d (.str v2),.d (.int .i64 v5.1),.d (.bool v5.2)] ++ us 90)) (fun v5=>⟨[],[]⟩) (fun _=>rfl) ?_ ?_) h
 refine .block (.guard fun q1=>Mir.range (fun (i1 : Nat) (v3 : Int × Bool)=>([.d (.str a0),U,U,.d (.str v2),.d (.int .i64 v3.1),.d (.bool v3.2),.d (.int .i64 (i1 : Int))] ++ us 89)) (fun i1 v3=>⟨[],[]⟩) q1 (fun _ _=>rfl) (by simp only [seval,FMT,zNI]) (by simp only [seval,FMT,zNI]) ?_ ?_)
 intro i1 c2 v3 q2
 refine .seqK (.sR fun e h=>?_)
 simp only [seval,EMT,und_9,q2]
 refine mU e (.condT rfl (.skip (Mir.toK (.seqK (Mir.join (fun v4 : Int × Bool=>([.d (.str a0),U,U,.d (.str v2),.d (.int .i64 v4.1),.d (.bool v4.2),.d (.int .i64 (i1 : Int))] ++ us 89)) (fun v4=>⟨[],[]⟩) (fun _=>rfl) ?_ ?_))))) h
 refine .block (.seqK (.seqK (.joinV ([.d (.str a0),U,U,.d (.str v2),.d (.int .i64 v3.1),.d (.bool v3.2),.d (.int .i64 (i1 : Int)),U,U,U,U,U,U,U,U,U,U,U,U,U,U,U,U,U,U,U,U,U,U,U,U,U,U,U,U,U,U,U,U,.d (.bool (((c2.toNat : Int) == 46) && (v3.1 == (v2.length : Int))))] ++ us 56) ⟨[],[]⟩ rfl ?_ ?_)))
 refine SWs.region ?_
 rcases Bool.eq_false_or_eq_true ((c2.toNat : Int) == 46) with h1 | h1
 simp only [seval,EMT,SL,PB,und_9,Int.toNat_natCast,q2,h1]
 simp only [seval,EMT,SL,PB,und_9,Int.toNat_natCast,q2,h1]
 refine Mir.toK (.cond rfl (fun h2=>?_) (fun h2=>?_))
 refine .sR fun e h=>?_
 simp only [seval,EMT]
 refine mU e (.exit fun e h=>?_) h
 cases h
 simp only [seval,FMT,Tryz.results55]
 refine .skip (Mir.toK (.seqK (.seqK (.joinV ([.d (.str a0),U,U,.d (.str v2),.d (.int .i64 v3.1),.d (.bool v3.2),.d (.int .i64 (i1 : Int)),U,U,U,U,U,U,U,U,U,U,U,U,U,U,U,U,U,U,U,U,U,U,U,U,U,U,U,U,U,U,U,U,U,U,U,U,U,U,U,U,U,U,U,.d (.bool ((decide ((c2.toNat : Int) < 48)) || (decide ((c2.toNat : Int) > 57))))] ++ us 45) ⟨[],[]⟩ rfl ?_ ?_))))
 refine SWs.region ?_
 rcases Bool.eq_false_or_eq_true (decide ((c2.toNat : Int) < 48)) with h3 | h3
 simp only [seval,EMT,SL,PB,und_9,Int.toNat_natCast,q2,h3]
 simp only [seval,EMT,SL,PB,und_9,Int.toNat_natCast,q2,h3]
 refine Mir.toK (.cond rfl (fun h4=>?_) (fun h4=>?_))
 refine .sR fun e h=>?_
 simp only [seval,EMT]
 refine mU e (.ret fun e h=>?_) h
 cases h
 simp only [seval,FMT,Tryz.results55]
 refine .skip (Mir.toK (.joinV ([.d (.str a0),U,U,.d (.str v2),.d (.int .i64 v3.1),.d (.bool (v3.2 || ((c2.toNat : Int) != 48))),.d (.int .i64 (i1 : Int))] ++ us 89) ⟨[],[]⟩ rfl ?_ ?_))
 refine SWs.region ?_
 rcases Bool.eq_false_or_eq_true (v3.2) with h5 | h5
 simp only [seval,EMT,SL,PB,h5]
 simp only [seval,EMT,SL,PB,und_9,Int.toNat_natCast,q2,h5]
 intro e h
 cases h
 simp only [seval,FMT,Tryz.results55]
 intro v4
 refine Mir.toK (.region fun e h=>?_)
 simp only [seval,EMT]
 cases h
 simp only [seval,FMT,Tryz.results55,q2]
 intro v3 q3
 refine .seqK (.sR fun e h=>?_)
 simp only [seval,EMT,und_9,q3]
 refine mU e (.condF rfl (.exit fun e h=>?_)) h
 cases h
 simp only [seval,FMT,Tryz.results55]
 intro v5
 refine Mir.toK (.seqK (.seqK (Mir.joinO (fun v6 : Bool=>([U,U,U,.d (.str v2),.d (.int .i64 v5.1),U,U,U,U,U,U,U,U,U,U,U,U,U,U,U,U,U,U,U,U,U,U,U,U,U,U,U,U,U,U,U,U,U,U,U,U,U,U,U,U,U,U,U,U,U,U,U,U,U,U,U,U,U,U,U,U,U,U,U,U,U,U,U,U,U,U,U,U,U,U,U,U,U,U,.d (.bool v6)] ++ us 16)) (fun v6=>⟨[],[]⟩) (fun _=>rfl) ?_ ?_)))
 refine .ite (fun h6=>?_) (fun h6=>?_)
 refine .region fun e h=>?_
 simp only [seval,EMT,h6]
 cases h
 simp only [seval,FMT,h6]
 refine .ite (fun h7=>?_) (fun h7=>?_)
 refine .bind fun c3 q5=>?_
 replace q5 := gt_ok q5
 simp only [Int.reduceToNat,Int.reduceLT,Nat.sub_zero,dp0] at q5
 refine .ite (fun h8=>?_) (fun h8=>?_)
 refine .region fun e h=>?_
 simp only [seval,EMT,und_9,q5,h6,h7,h8]
 cases h
 simp only [seval,FMT,h6,h7,h8]
 refine .ite (fun h9=>?_) (fun h9=>?_)
 refine .region fun e h=>?_
 simp only [seval,EMT,und_9,q5,h6,h7,h8,h9]
 cases h
 simp only [seval,FMT,h6,h7,h8,h9]
 refine .region fun e h=>?_
 simp only [seval,EMT,und_9,q5,h6,h7,h8,h9]
 cases h
 simp only [seval,FMT,h6,h7,h8,h9]
 refine .ite (fun h10=>?_) (fun h10=>?_)
 refine .region fun e h=>?_
 simp only [seval,EMT,und_9,h6,h7,h10]
 cases h
 simp only [seval,FMT,h6,h7,h10]
 refine .region fun e h=>?_
 simp only [seval,EMT,und_9,h6,h7,h10]
 cases h
 simp only [seval,FMT,h6,h7,h10]
 intro v6
 refine Mir.toK (.cond rfl (fun h11=>?_) (fun h11=>?_))
 refine .sR fun e h=>?_
 simp only [seval,EMT]
 refine mU e (.ret fun e h=>?_) h
 cases h
 simp only [seval,FMT,Tryz.results55]
 refine .skip (Mir.toK (.seqK (.sR fun e h=>?_)))
 simp only [seval,EMT,und_9]
 refine mU e (.cond rfl (fun h12=>?_) (fun h12=>?_)) h
 refine .sR fun e h=>?_
 simp only [seval,EMT]
 refine mU e (.ret fun e h=>?_) h
 cases h
 simp only [seval,FMT,Tryz.results55]
 refine .skip (Mir.toK (.sR fun e h=>?_))
 simp only [seval,EMT,und_9]
 refine mU e (.seqK (.seqK (.joinV [U,U,U,U,U,U,U,.d (.int .i64 (IntKind.i64.wrap ((IntKind.i64.wrap ((v2.length : Int) - v5.1)) - 1))),U,U,U,U,U,U,U,U,U,U,U,U,U,U,U,U,U,U,U,U,U,U,U,U,U,U,U,U,U,U,U,U,U,U,U,U,U,U,U,U,U,U,U,U,U,U,U,U,U,U,U,U,U,U,U,U,U,U,U,U,U,U,U,U,U,U,U,U,U,U,U,U,U,U,U,U,U,U,U,U,U,U,U,U,U,U,.d (.bool ((decide ((IntKind.i64.wrap ((IntKind.i64.wrap ((v2.length : Int) - v5.1)) - 1)) < 1)) || (decide ((IntKind.i64.wrap ((IntKind.i64.wrap ((v2.length : Int) - v5.1)) - 1)) > 30)))),U] ⟨[],[]⟩ rfl ?_ ?_))) h
 refine SWs.region ?_
 rcases Bool.eq_false_or_eq_true (decide ((IntKind.i64.wrap ((IntKind.i64.wrap ((v2.length : Int) - v5.1)) - 1)) < 1)) with h13 | h13
 simp only [seval,EMT,SL,PB,h13]
 simp only [seval,EMT,SL,PB,h13]
 refine Mir.toK (.cond rfl (fun h14=>?_) (fun h14=>?_))
 refine .sR fun e h=>?_
 simp only [seval,EMT]
 refine mU e (.ret fun e h=>?_) h
 cases h
 simp only [seval,FMT,Tryz.results55]
 refine .skip (Mir.toK (.sR fun e h=>?_))
 simp only [seval,EMT]
 refine mU e (.ret fun e h=>?_) h
 cases h
 simp only [seval,FMT,Tryz.results55]
def r01_Parse (a0 : (List UInt8)) : Option (ApiInt × Int) := bindO (if (decide ((a0.length : Int) > 0)) = true then bindO (gt a0 0) fun (c1 : UInt8) => some ((c1.toNat : Int) == 45) else some false) fun (v1 : Bool) => bindO (if v1 = true then bindO (cutF a0 1) fun (s1 : (List UInt8)) => some s1 else some a0) fun (v2 : (List UInt8)) => bindO (if (v2 == []) = true then some true else if (decide ((a0.length : Int) > 65536)) = true then some true else bindO (gt v2 0) fun (c2 : UInt8) => if ((c2.toNat : Int) == 48) = true then some (!(a0 == [48])) else some false) fun (v3 : Bool) => if v3 = true then some (ApiInt.mk false [], 2) else guardO (decide ((0 : Int) ≤ (IntKind.i64.wrap ((IntKind.i64.wrap (Int.tdiv (v2.length : Int) 9)) + 1)))) ( guardO (okLen (Int.toNat (IntKind.i64.wrap ((IntKind.i64.wrap (Int.tdiv (v2.length : Int) 9)) + 1)))) ( bindX (guardO (okIdx v2) ( rangeX (fun (i1 : Nat) (c3 : UInt8) (v4 : (List Int)) => bindX (if ((decide ((c3.toNat : Int) < 48)) || (decide ((c3.toNat : Int) > 57))) = true then some (.ret (.ret (.ret (ApiInt.mk false [], 2)))) else bindO (loopX (fun (v5 : Int × Int) => if (decide (v5.2 < (Int.tmod (IntKind.i64.wrap ((IntKind.i64.wrap ((v2.length : Int) - 1)) - (i1 : Int))) 9))) = true then some (.go (IntKind.u32.wrap (v5.1 * 10), IntKind.i64.wrap (v5.2 + 1))) else some (.ret v5.1)) fuel (1, 0)) fun (v6 : Int) => bindO (gt v4 (IntKind.i64.wrap (Int.tdiv (IntKind.i64.wrap ((IntKind.i64.wrap ((v2.length : Int) - 1)) - (i1 : Int))) 9))) fun (e1 : Int) => bindO (gt v4 (IntKind.i64.wrap (Int.tdiv (IntKind.i64.wrap ((IntKind.i64.wrap ((v2.length : Int) - 1)) - (i1 : Int))) 9))) fun (e2 : Int) => some (.go (v4.set (Int.toNat (IntKind.i64.wrap (Int.tdiv (IntKind.i64.wrap ((IntKind.i64.wrap ((v2.length : Int) - 1)) - (i1 : Int))) 9))) (IntKind.u32.wrap (e1 + (IntKind.u32.wrap ((IntKind.u32.wrap (IntKind.u8.wrap ((c3.toNat : Int) - 48))) * v6))))))) fun (v7 : (List Int)) => some (.go v7)) (fun (v4 : (List Int)) => some (.go v4)) v2 0 (List.replicate (Int.toNat (IntKind.i64.wrap ((IntKind.i64.wrap (Int.tdiv (v2.length : Int) 9)) + 1))) (0 : Int)))) fun (v8 : (List Int)) => bindO (gt a0 0) fun (c4 : UInt8) => bindO (r01_signed ((c4.toNat : Int) == 45) v8) fun (y1 : ApiInt) => some (y1, 0)))
theorem r01_Parse_spec {a0 : (List UInt8)} {y : ApiInt × Int} (h : r01_Parse a0 = some y) : Spec gP 37 [.d (.str a0)] (.tuple [.agg [.d (.bool y.1.Neg), .d (.list (List.map (eInt .u32) y.1.Limbs))], .d (.int .i64 y.2)]) := by
 refine spec_mir Tryz.func37 rfl (by kernel_rfl) (by kernel_rfl) (fun y : ApiInt × Int => .tuple [.agg [.d (.bool y.1.Neg), .d (.list (List.map (eInt .u32) y.1.Limbs))], .d (.int .i64 y.2)]) ?_ h
 unfold r01_Parse
 simp only [List.replicate, List.length, nS, nA, Tryz.ntmps37, SV]
 refine .sR fun e h=>?_
 simp only [seval,EMT,zero_51,eInt,rmap_set,spD]
 refine mU e (.sR fun e h=>?_) h
 simp only [seval,EMT,eInt,rmap_set,spD]
 refine mU e (.seqK (.seqK (Mir.joinO (fun v1 : Bool=>([.d (.str a0),U,.ptr 0 0,U,.d (.str a0),U,U,U,U,U,U,U,U,U,U,U,U,U,.d (.bool v1)] ++ us 76)) (fun v1=>⟨[[.d (.bool false),.nil]],[]⟩) (fun _=>rfl) ?_ ?_))) h
 refine .ite (fun hb1=>?_) (fun hb1=>?_)
 refine .bind fun c1 q2=>?_
 replace q2 := gt_ok q2
 simp only [Int.reduceToNat,Int.reduceLT,Nat.sub_zero,dp0] at q2
 refine .region fun e h=>?_
 simp only [seval,EMT,und_9,q2,hb1]
 cases h
 simp only [seval,FMT,hb1]
 refine .region fun e h=>?_
 simp only [seval,EMT,und_9,hb1]
 cases h
 simp only [seval,FMT,hb1]
 intro v1
 refine Mir.toK (Mir.joinO (fun v2 : (List UInt8)=>([.d (.str a0),U,.ptr 0 0,U,.d (.str v2)] ++ us 90)) (fun v2=>⟨[[.d (.bool false),.nil]],[]⟩) (fun _=>rfl) ?_ ?_)
 refine .cond rfl (fun hb5=>?_) (fun hb5=>?_)
 refine .bind fun s1 q6=>?_
 replace q6 := cutF_ok q6
 simp only [Int.reduceToNat,Int.reduceLT,Nat.sub_zero,dp0] at q6
 refine .region fun e h=>?_
 simp only [seval,EMT,und_9,q6,Nat.le_refl,and_true,true_and,dm,tm]
 cases h
 simp only [seval,FMT,Tryz.results37,ag_51,sz_51]
 refine .skip fun e h=>?_
 cases h
 simp only [seval,FMT,Tryz.results37,ag_51,sz_51]
 intro v2
 refine Mir.toK (.seqK (.seqK (Mir.joinO (fun v3 : Bool=>([.d (.str a0),U,.ptr 0 0,U,.d (.str v2),U,U,U,U,U,U,U,U,U,U,U,U,U,U,U,U,U,U,U,U,U,U,U,U,U,U,U,U,U,U,U,.d (.bool v3)] ++ us 58)) (fun v3=>⟨[[.d (.bool false),.nil]],[]⟩) (fun _=>rfl) ?_ ?_)))
 refine .ite (fun hb7=>?_) (fun hb7=>?_)
 refine .region fun e h=>?_
 simp only [seval,EMT,hb7]
 cases h
 simp only [seval,FMT,hb7]
 refine .ite (fun hb8=>?_) (fun hb8=>?_)
 refine .region fun e h=>?_
 simp only [seval,EMT,und_9,hb7,hb8]
 cases h
 simp only [seval,FMT,hb7,hb8]
 refine .bind fun c2 q9=>?_
 replace q9 := gt_ok q9
 simp only [Int.reduceToNat,Int.reduceLT,Nat.sub_zero,dp0] at q9
 refine .ite (fun hb10=>?_) (fun hb10=>?_)
 refine .region fun e h=>?_
 simp only [seval,EMT,und_9,q9,hb7,hb8,hb10]
 cases h
 simp only [seval,FMT,hb7,hb8,hb10]
 refine .region fun e h=>?_
 simp only [seval,EMT,und_9,q9,hb7,hb8,hb10]
 cases h
 simp only [seval,FMT,hb7,hb8,hb10]
 intro v3
 refine Mir.toK (.cond rfl (fun hb12=>?_) (fun hb12=>?_))
 refine .sR fun e h=>?_
 simp only [seval,EMT,zero_51,pl_51,sz_51]
 refine mU e (.ret fun e h=>?_) h
 cases h
 simp only [seval,FMT,Tryz.results37,ag_51,sz_51]
 refine .skip (Mir.toK (.seqK (.guard fun q13=>.guard fun q14=>.regionW fun e h=>regW.alt 4 rfl ?_)))
 simp only [seval,EMT,w_none,w_eq,und_9,eInt,rmap_set,spD]
 refine alt_makeM (en := (eInt .u32)) (z := 0) rfl rfl app_49 zero_101 rfl rfl (of_decide_eq_true q13) q14 (regW.of ?_)
 simp only [seval,EMT,w_none,w_eq,eInt,rmap_set,spD]
 refine mU e (.seqK (.sR fun e h=>?_)) h
 simp only [seval,EMT,eInt,rmap_set,spD]
 refine mU e (Mir.join (fun v8 : (List Int)=>([.d (.str a0),U,.ptr 0 0,U,U,.gr 1 0] ++ us 89)) (fun v8=>⟨[[.d (.bool false),.nil],[.rowc 101 0 (List.map (eInt .u32) v8)]],[]⟩) (fun _=>rfl) ?_ ?_) h
 refine .block (.guard fun q1=>Mir.range (fun (i1 : Nat) (v4 : (List Int))=>([.d (.str a0),U,.ptr 0 0,U,.d (.str v2),.gr 1 0,.d (.int .i64 (i1 : Int))] ++ us 88)) (fun i1 v4=>⟨[[.d (.bool false),.nil],[.rowc 101 0 (List.map (eInt .u32) v4)]],[]⟩) q1 (fun _ _=>rfl) (by simp only [seval,FMT,eInt,rmap_set,spD,zNI]) (by simp only [seval,FMT,eInt,rmap_set,spD,zNI]) ?_ ?_)
 intro i1 c3 v4 q3
 refine .seqK (.sR fun e h=>?_)
 simp only [seval,EMT,und_9,q3,eInt,rmap_set,spD]
 refine mU e (.condT rfl (.skip (Mir.toK (.seqK (Mir.join (fun v7 : (List Int)=>([.d (.str a0),U,.ptr 0 0,U,.d (.str v2),.gr 1 0,.d (.int .i64 (i1 : Int))] ++ us 88)) (fun v7=>⟨[[.d (.bool false),.nil],[.rowc 101 0 (List.map (eInt .u32) v7)]],[]⟩) (fun _=>rfl) ?_ ?_))))) h
 refine .block (.seqK (.seqK (.joinV ([.d (.str a0),U,.ptr 0 0,U,.d (.str v2),.gr 1 0,.d (.int .i64 (i1 : Int)),U,U,U,U,U,U,U,U,U,U,U,U,U,U,U,U,U,U,U,U,U,U,U,U,U,U,U,U,U,U,U,U,U,U,U,U,U,U,U,U,U,U,U,U,U,U,U,U,U,U,U,.d (.bool ((decide ((c3.toNat : Int) < 48)) || (decide ((c3.toNat : Int) > 57))))] ++ us 36) ⟨[[.d (.bool false),.nil],[.rowc 101 0 (List.map (eInt .u32) v4)]],[]⟩ rfl ?_ ?_)))
 refine SWs.region ?_
 rcases Bool.eq_false_or_eq_true (decide ((c3.toNat : Int) < 48)) with h1 | h1
 simp only [seval,EMT,SL,PB,und_9,Int.toNat_natCast,q3,h1,eInt,rmap_set,spD]
 simp only [seval,EMT,SL,PB,und_9,Int.toNat_natCast,q3,h1,eInt,rmap_set,spD]
 refine Mir.toK (.cond rfl (fun h2=>?_) (fun h2=>?_))
 refine .sR fun e h=>?_
 simp only [seval,EMT,zero_51,pl_51,sz_51,eInt,rmap_set,spD]
 refine mU e (.ret fun e h=>?_) h
 cases h
 simp only [seval,FMT,eInt,rmap_set,spD,Tryz.results37,ag_51,sz_51]
 refine .skip (Mir.toK (.sR fun e h=>?_))
 simp only [seval,EMT,und_9,eInt,rmap_set,spD]
 refine mU e (.sR fun e h=>?_) h
 simp only [seval,EMT,eInt,rmap_set,spD]
 refine mU e (.seqK (.sR fun e h=>?_)) h
 simp only [seval,EMT,eInt,rmap_set,spD]
 refine mU e (Mir.joinO (fun v6 : Int=>([.d (.str a0),U,.ptr 0 0,U,.d (.str v2),.gr 1 0,.d (.int .i64 (i1 : Int)),.d (.int .i64 (IntKind.i64.wrap ((IntKind.i64.wrap ((v2.length : Int) - 1)) - (i1 : Int)))),.d (.int .u32 v6)] ++ us 86)) (fun v6=>⟨[[.d (.bool false),.nil],[.rowc 101 0 (List.map (eInt .u32) v4)]],[]⟩) (fun _=>rfl) ?_ ?_) h
 refine .block (Mir.loop (fun v5 : Int × Int=>([.d (.str a0),U,.ptr 0 0,U,.d (.str v2),.gr 1 0,.d (.int .i64 (i1 : Int)),.d (.int .i64 (IntKind.i64.wrap ((IntKind.i64.wrap ((v2.length : Int) - 1)) - (i1 : Int)))),.d (.int .u32 v5.1),.d (.int .i64 v5.2)] ++ us 85)) (fun v5=>⟨[[.d (.bool false),.nil],[.rowc 101 0 (List.map (eInt .u32) v4)]],[]⟩) (fun _=>rfl) (by simp only [seval,FMT,eInt,rmap_set,spD]) (by simp only [seval,FMT,eInt,rmap_set,spD]) fun v5=>.seqK (.sR fun e h=>?_))
 simp only [seval,EMT,eInt,rmap_set,spD]
 refine mU e (.cond rfl (fun h3=>?_) (fun h3=>?_)) h
 refine .skip (Mir.toK (.seqK (.block (.region fun e h=>?_))))
 simp only [seval,EMT,eInt,rmap_set,spD]
 refine mU e (.region fun e h=>?_) h
 simp only [seval,EMT,eInt,rmap_set,spD]
 cases h
 simp only [seval,FMT,eInt,rmap_set,spD,Tryz.results37,ag_51,sz_51]
 refine .exit fun e h=>?_
 cases h
 simp only [seval,FMT,eInt,rmap_set,spD,Tryz.results37,ag_51,sz_51]
 intro v6
 refine Mir.toK (.bind fun e1 q4=>?_)
 replace q4 := gt_ok q4
 refine .bind fun e2 q5=>?_
 replace q5 := gt_ok q5
 refine Mir.regionA 0 [] ([.d (.str a0),U,.ptr 0 0,U,.d (.str v2),.gr 1 0,.d (.int .i64 (i1 : Int)),.d (.int .i64 (IntKind.i64.wrap ((IntKind.i64.wrap ((v2.length : Int) - 1)) - (i1 : Int)))),.d (.int .u32 v6),U,U,U,U,U,U,U,U,U,U,U,U,U,U,U,U,U,U,U,U,U,U,U,U,U,U,U,U,U,U,U,U,U,U,U,U,U,U,U,U,U,U,U,U,U,U,U,U,U,U,U,U,U,U,U,U,U,U,U,U,U,U,U,U,.gr 1 0,.d (.int .i64 (IntKind.i64.wrap ((IntKind.i64.wrap ((v2.length : Int) - 1)) - (i1 : Int)))),.d (.int .i64 (IntKind.i64.wrap (Int.tdiv (IntKind.i64.wrap ((IntKind.i64.wrap ((v2.length : Int) - 1)) - (i1 : Int))) 9))),.gr 1 0,.d (.int .i64 (IntKind.i64.wrap ((IntKind.i64.wrap ((v2.length : Int) - 1)) - (i1 : Int)))),.d (.int .i64 (IntKind.i64.wrap (Int.tdiv (IntKind.i64.wrap ((IntKind.i64.wrap ((v2.length : Int) - 1)) - (i1 : Int))) 9))),.gp 1 0 (Int.toNat (IntKind.i64.wrap (Int.tdiv (IntKind.i64.wrap ((IntKind.i64.wrap ((v2.length : Int) - 1)) - (i1 : Int))) 9))) 0,.d (.int .u32 e1),.d (.str v2),.d (.int .i64 (i1 : Int)),.d (.int .u8 (c3.toNat : Int)),.d (.int .u8 (IntKind.u8.wrap ((c3.toNat : Int) - 48))),.d (.int .u32 (IntKind.u32.wrap (IntKind.u8.wrap ((c3.toNat : Int) - 48)))),.d (.int .u32 v6),.d (.int .u32 (IntKind.u32.wrap ((IntKind.u32.wrap (IntKind.u8.wrap ((c3.toNat : Int) - 48))) * v6))),.d (.int .u32 (IntKind.u32.wrap (e1 + (IntKind.u32.wrap ((IntKind.u32.wrap (IntKind.u8.wrap ((c3.toNat : Int) - 48))) * v6))))),.gp 1 0 (Int.toNat (IntKind.i64.wrap (Int.tdiv (IntKind.i64.wrap ((IntKind.i64.wrap ((v2.length : Int) - 1)) - (i1 : Int))) 9))) 0] ++ us 5) ⟨[[.d (.bool false),.nil],[.rowc 101 0 (List.map (eInt .u32) (v4.set (Int.toNat (IntKind.i64.wrap (Int.tdiv (IntKind.i64.wrap ((IntKind.i64.wrap ((v2.length : Int) - 1)) - (i1 : Int))) 9))) (IntKind.u32.wrap (e1 + (IntKind.u32.wrap ((IntKind.u32.wrap (IntKind.u8.wrap ((c3.toNat : Int) - 48))) * v6))))))]],[]⟩ (by kernel_rfl) (fun e h=>?_) (fun e h=>?_)
 simp only [seval,EMT,w_none,w_eq,SB,eInt,rmap_set,spD]
 refine regA.pureB (j := 1) (d := 74) (by kernel_rfl) rfl rfl (by kernel_rfl) rfl rfl (Nat.le_of_ble_eq_true rfl) ?_
 simp only [seval,EMT,w_none,w_eq,eInt,rmap_set,spD]
 refine ⟨rfl,?_⟩
 refine regA.pureB (j := 2) (d := 75) (by kernel_rfl) rfl rfl (by kernel_rfl) rfl rfl (Nat.le_of_ble_eq_true rfl) ?_
 simp only [seval,EMT,w_none,w_eq,eInt,rmap_set,spD]
 refine ⟨rfl,?_⟩
 refine regA.pureB (j := 4) (d := 77) (by kernel_rfl) rfl rfl (by kernel_rfl) rfl rfl (Nat.le_of_ble_eq_true rfl) ?_
 simp only [seval,EMT,w_none,w_eq,eInt,rmap_set,spD]
 refine ⟨rfl,?_⟩
 refine regA.pureB (j := 5) (d := 78) (by kernel_rfl) rfl rfl (by kernel_rfl) rfl rfl (Nat.le_of_ble_eq_true rfl) ?_
 simp only [seval,EMT,w_none,w_eq,eInt,rmap_set,spD]
 refine ⟨rfl,?_⟩
 refine regA.pureB (j := 8) (d := 81) (by kernel_rfl) rfl rfl (by kernel_rfl) rfl rfl (Nat.le_of_ble_eq_true rfl) ?_
 simp only [seval,EMT,w_none,w_eq,eInt,rmap_set,spD]
 refine ⟨rfl,?_⟩
 refine regA.pureB (j := 9) (d := 82) (by kernel_rfl) rfl rfl (by kernel_rfl) rfl rfl (Nat.le_of_ble_eq_true rfl) ?_
 simp only [seval,EMT,w_none,w_eq,eInt,rmap_set,spD]
 refine ⟨rfl,?_⟩
 refine regA.pureB (j := 13) (d := 86) (by kernel_rfl) rfl rfl (by kernel_rfl) rfl rfl (Nat.le_of_ble_eq_true rfl) ?_
 simp only [seval,EMT,w_none,w_eq,eInt,rmap_set,spD]
 refine ⟨rfl,?_⟩
 refine regA.three (j := 0) (k := 3) (l := 10) (by kernel_rfl) rfl rfl rfl ?_ ?_ ?_
 refine regW.of ?_
 simp only [seval,EMT,w_none,w_eq,eInt,rmap_set,spD]
 refine regA.two (j := 3) (k := 10) (by kernel_rfl) rfl rfl ?_ ?_
 refine regW.of ?_
 simp only [seval,EMT,w_none,w_eq,eInt,rmap_set,spD]
 refine regA.two (j := 6) (k := 10) (by kernel_rfl) rfl rfl ?_ ?_
 refine regW.alt 0 rfl ?_
 simp only [seval,EMT,w_none,w_eq,eInt,rmap_set,spD]
 refine alt_indexR rfl rfl rfl und_49 sz_101 (row_lo q4.1) (row_hi q4.2 q4.1) (regW.of ?_)
 simp only [seval,EMT,w_none,w_eq,und_49,sz_101,eInt,rmap_set,spD]
 refine regA.two (j := 7) (k := 10) (by kernel_rfl) rfl rfl ?_ ?_
 refine regW.alt 0 rfl ?_
 simp only [seval,EMT,w_none,w_eq,eInt,rmap_set,spD]
 refine alt_loadR rfl rfl (row_at q4.2) (by simp only [↓reduceIte,nA,nL,pt_eq,ag_101,sz_101,dc_cons,dc_nil,SV,eInt] <;> rfl) (regW.of ?_)
 simp only [seval,EMT,w_none,w_eq,ag_101,sz_101,eInt,rmap_set,spD]
 refine regA.one (j := 10) (by kernel_rfl) rfl (regW.of ?_)
 simp only [seval,EMT,w_none,w_eq,und_9,Int.toNat_natCast,q3,eInt,rmap_set,spD]
 refine regA.pureB (j := 11) (d := 84) (by kernel_rfl) rfl rfl (by kernel_rfl) rfl rfl (Nat.le_of_ble_eq_true rfl) ?_
 simp only [seval,EMT,w_none,w_eq,eInt,rmap_set,spD]
 refine ⟨rfl,?_⟩
 refine regA.pureB (j := 12) (d := 85) (by kernel_rfl) rfl rfl (by kernel_rfl) rfl rfl (Nat.le_of_ble_eq_true rfl) ?_
 simp only [seval,EMT,w_none,w_eq,und_5,und_101,eInt,rmap_set,spD]
 refine ⟨rfl,?_⟩
 refine regA.pureB (j := 14) (d := 87) (by kernel_rfl) rfl rfl (by kernel_rfl) rfl rfl (Nat.le_of_ble_eq_true rfl) ?_
 simp only [seval,EMT,w_none,w_eq,eInt,rmap_set,spD]
 refine ⟨rfl,?_⟩
 refine regA.pureB (j := 15) (d := 88) (by kernel_rfl) rfl rfl (by kernel_rfl) rfl rfl (Nat.le_of_ble_eq_true rfl) ?_
 simp only [seval,EMT,w_none,w_eq,eInt,rmap_set,spD]
 refine ⟨rfl,?_⟩
 refine regA.one (j := 16) (by kernel_rfl) rfl (regW.alt 0 rfl ?_)
 simp only [seval,EMT,w_none,w_eq,eInt,rmap_set,spD]
 refine alt_indexR rfl rfl rfl und_49 sz_101 (row_lo q5.1) (row_hi q5.2 q5.1) (regW.of ?_)
 simp only [seval,EMT,w_none,w_eq,und_49,sz_101,eInt,rmap_set,spD]
 refine regA.one (j := 17) (by kernel_rfl) rfl (regW.alt 0 rfl ?_)
 simp only [seval,EMT,w_none,w_eq,eInt,rmap_set,spD]
 refine alt_storeR rfl rfl (row_at q5.2) rfl rfl sz_101 rfl (Nat.le_of_ble_eq_true rfl) (regW.of ?_)
 simp only [seval,EMT,w_none,w_eq,sz_101,eInt,rmap_set,spD]
 exact regA.nil (by kernel_rfl) ⟨rfl,rfl⟩
 refine regW.of ?_
 simp only [seval,EMT,w_none,w_eq,und_9,Int.toNat_natCast,q3,eInt,rmap_set,spD]
 refine regA.pureB (j := 11) (d := 84) (by kernel_rfl) rfl rfl (by kernel_rfl) rfl rfl (Nat.le_of_ble_eq_true rfl) ?_
 simp only [seval,EMT,w_none,w_eq,eInt,rmap_set,spD]
 refine ⟨rfl,?_⟩
 refine regA.pureB (j := 12) (d := 85) (by kernel_rfl) rfl rfl (by kernel_rfl) rfl rfl (Nat.le_of_ble_eq_true rfl) ?_
 simp only [seval,EMT,w_none,w_eq,und_5,und_101,eInt,rmap_set,spD]
 refine ⟨rfl,?_⟩
 refine regA.pureB (j := 14) (d := 87) (by kernel_rfl) rfl rfl (by kernel_rfl) rfl rfl (Nat.le_of_ble_eq_true rfl) ?_
 simp only [seval,EMT,w_none,w_eq,eInt,rmap_set,spD]
 refine ⟨rfl,?_⟩
 refine regA.one (j := 7) (by kernel_rfl) rfl (regW.alt 0 rfl ?_)
 simp only [seval,EMT,w_none,w_eq,eInt,rmap_set,spD]
 refine alt_loadR rfl rfl (row_at q4.2) (by simp only [↓reduceIte,nA,nL,pt_eq,ag_101,sz_101,dc_cons,dc_nil,SV,eInt] <;> rfl) (regW.of ?_)
 simp only [seval,EMT,w_none,w_eq,ag_101,sz_101,eInt,rmap_set,spD]
 refine regA.pureB (j := 15) (d := 88) (by kernel_rfl) rfl rfl (by kernel_rfl) rfl rfl (Nat.le_of_ble_eq_true rfl) ?_
 simp only [seval,EMT,w_none,w_eq,eInt,rmap_set,spD]
 refine ⟨rfl,?_⟩
 refine regA.one (j := 16) (by kernel_rfl) rfl (regW.alt 0 rfl ?_)
 simp only [seval,EMT,w_none,w_eq,eInt,rmap_set,spD]
 refine alt_indexR rfl rfl rfl und_49 sz_101 (row_lo q5.1) (row_hi q5.2 q5.1) (regW.of ?_)
 simp only [seval,EMT,w_none,w_eq,und_49,sz_101,eInt,rmap_set,spD]
 refine regA.one (j := 17) (by kernel_rfl) rfl (regW.alt 0 rfl ?_)
 simp only [seval,EMT,w_none,w_eq,eInt,rmap_set,spD]
 refine alt_storeR rfl rfl (row_at q5.2) rfl rfl sz_101 rfl (Nat.le_of_ble_eq_true rfl) (regW.of ?_)
 simp only [seval,EMT,w_none,w_eq,sz_101,eInt,rmap_set,spD]
 exact regA.nil (by kernel_rfl) ⟨rfl,rfl⟩
 refine regW.of ?_
 simp only [seval,EMT,w_none,w_eq,und_9,Int.toNat_natCast,q3,eInt,rmap_set,spD]
 refine regA.pureB (j := 11) (d := 84) (by kernel_rfl) rfl rfl (by kernel_rfl) rfl rfl (Nat.le_of_ble_eq_true rfl) ?_
 simp only [seval,EMT,w_none,w_eq,eInt,rmap_set,spD]
 refine ⟨rfl,?_⟩
 refine regA.pureB (j := 12) (d := 85) (by kernel_rfl) rfl rfl (by kernel_rfl) rfl rfl (Nat.le_of_ble_eq_true rfl) ?_
 simp only [seval,EMT,w_none,w_eq,und_5,und_101,eInt,rmap_set,spD]
 refine ⟨rfl,?_⟩
 refine regA.pureB (j := 14) (d := 87) (by kernel_rfl) rfl rfl (by kernel_rfl) rfl rfl (Nat.le_of_ble_eq_true rfl) ?_
 simp only [seval,EMT,w_none,w_eq,eInt,rmap_set,spD]
 refine ⟨rfl,?_⟩
 refine regA.one (j := 6) (by kernel_rfl) rfl (regW.alt 0 rfl ?_)
 simp only [seval,EMT,w_none,w_eq,eInt,rmap_set,spD]
 refine alt_indexR rfl rfl rfl und_49 sz_101 (row_lo q4.1) (row_hi q4.2 q4.1) (regW.of ?_)
 simp only [seval,EMT,w_none,w_eq,und_49,sz_101,eInt,rmap_set,spD]
 refine regA.one (j := 7) (by kernel_rfl) rfl (regW.alt 0 rfl ?_)
 simp only [seval,EMT,w_none,w_eq,eInt,rmap_set,spD]
 refine alt_loadR rfl rfl (row_at q4.2) (by simp only [↓reduceIte,nA,nL,pt_eq,ag_101,sz_101,dc_cons,dc_nil,SV,eInt] <;> rfl) (regW.of ?_)
 simp only [seval,EMT,w_none,w_eq,ag_101,sz_101,eInt,rmap_set,spD]
 refine regA.pureB (j := 15) (d := 88) (by kernel_rfl) rfl rfl (by kernel_rfl) rfl rfl (Nat.le_of_ble_eq_true rfl) ?_
 simp only [seval,EMT,w_none,w_eq,eInt,rmap_set,spD]
 refine ⟨rfl,?_⟩
 refine regA.one (j := 16) (by kernel_rfl) rfl (regW.alt 0 rfl ?_)
 simp only [seval,EMT,w_none,w_eq,eInt,rmap_set,spD]
 refine alt_indexR rfl rfl rfl und_49 sz_101 (row_lo q5.1) (row_hi q5.2 q5.1) (regW.of ?_)
 simp only [seval,EMT,w_none,w_eq,und_49,sz_101,eInt,rmap_set,spD]
 refine regA.one (j := 17) (by kernel_rfl) rfl (regW.alt 0 rfl ?_)
 simp only [seval,EMT,w_none,w_eq,eInt,rmap_set,spD]
 refine alt_storeR rfl rfl (row_at q5.2) rfl rfl sz_101 rfl (Nat.le_of_ble_eq_true rfl) (regW.of ?_)
 simp only [seval,EMT,w_none,w_eq,sz_101,eInt,rmap_set,spD]
 exact regA.nil (by kernel_rfl) ⟨rfl,rfl⟩
 refine regW.of ?_
 simp only [seval,EMT,w_none,w_eq,und_9,Int.toNat_natCast,q3,eInt,rmap_set,spD]
 refine regA.pureB (j := 11) (d := 84) (by kernel_rfl) rfl rfl (by kernel_rfl) rfl rfl (Nat.le_of_ble_eq_true rfl) ?_
 simp only [seval,EMT,w_none,w_eq,eInt,rmap_set,spD]
 refine ⟨rfl,?_⟩
 refine regA.pureB (j := 12) (d := 85) (by kernel_rfl) rfl rfl (by kernel_rfl) rfl rfl (Nat.le_of_ble_eq_true rfl) ?_
 simp only [seval,EMT,w_none,w_eq,und_5,und_101,eInt,rmap_set,spD]
 refine ⟨rfl,?_⟩
 refine regA.pureB (j := 14) (d := 87) (by kernel_rfl) rfl rfl (by kernel_rfl) rfl rfl (Nat.le_of_ble_eq_true rfl) ?_
 simp only [seval,EMT,w_none,w_eq,eInt,rmap_set,spD]
 refine ⟨rfl,?_⟩
 refine regA.one (j := 3) (by kernel_rfl) rfl (regW.of ?_)
 simp only [seval,EMT,w_none,w_eq,eInt,rmap_set,spD]
 refine regA.one (j := 6) (by kernel_rfl) rfl (regW.alt 0 rfl ?_)
 simp only [seval,EMT,w_none,w_eq,eInt,rmap_set,spD]
 refine alt_indexR rfl rfl rfl und_49 sz_101 (row_lo q4.1) (row_hi q4.2 q4.1) (regW.of ?_)
 simp only [seval,EMT,w_none,w_eq,und_49,sz_101,eInt,rmap_set,spD]
 refine regA.one (j := 7) (by kernel_rfl) rfl (regW.alt 0 rfl ?_)
 simp only [seval,EMT,w_none,w_eq,eInt,rmap_set,spD]
 refine alt_loadR rfl rfl (row_at q4.2) (by simp only [↓reduceIte,nA,nL,pt_eq,ag_101,sz_101,dc_cons,dc_nil,SV,eInt] <;> rfl) (regW.of ?_)
 simp only [seval,EMT,w_none,w_eq,ag_101,sz_101,eInt,rmap_set,spD]
 refine regA.pureB (j := 15) (d := 88) (by kernel_rfl) rfl rfl (by kernel_rfl) rfl rfl (Nat.le_of_ble_eq_true rfl) ?_
 simp only [seval,EMT,w_none,w_eq,eInt,rmap_set,spD]
 refine ⟨rfl,?_⟩
 refine regA.one (j := 16) (by kernel_rfl) rfl (regW.alt 0 rfl ?_)
 simp only [seval,EMT,w_none,w_eq,eInt,rmap_set,spD]
 refine alt_indexR rfl rfl rfl und_49 sz_101 (row_lo q5.1) (row_hi q5.2 q5.1) (regW.of ?_)
 simp only [seval,EMT,w_none,w_eq,und_49,sz_101,eInt,rmap_set,spD]
 refine regA.one (j := 17) (by kernel_rfl) rfl (regW.alt 0 rfl ?_)
 simp only [seval,EMT,w_none,w_eq,eInt,rmap_set,spD]
 refine alt_storeR rfl rfl (row_at q5.2) rfl rfl sz_101 rfl (Nat.le_of_ble_eq_true rfl) (regW.of ?_)
 simp only [seval,EMT,w_none,w_eq,sz_101,eInt,rmap_set,spD]
 exact regA.nil (by kernel_rfl) ⟨rfl,rfl⟩
 refine regW.of ?_
 simp only [seval,EMT,w_none,w_eq,eInt,rmap_set,spD]
 refine regA.three (j := 0) (k := 6) (l := 10) (by kernel_rfl) rfl rfl rfl ?_ ?_ ?_
 refine regW.of ?_
 simp only [seval,EMT,w_none,w_eq,eInt,rmap_set,spD]
 refine regA.two (j := 6) (k := 10) (by kernel_rfl) rfl rfl ?_ ?_
 refine regW.alt 0 rfl ?_
 simp only [seval,EMT,w_none,w_eq,eInt,rmap_set,spD]
 refine alt_indexR rfl rfl rfl und_49 sz_101 (row_lo q4.1) (row_hi q4.2 q4.1) (regW.of ?_)
 simp only [seval,EMT,w_none,w_eq,und_49,sz_101,eInt,rmap_set,spD]
 refine regA.two (j := 7) (k := 10) (by kernel_rfl) rfl rfl ?_ ?_
 refine regW.alt 0 rfl ?_
 simp only [seval,EMT,w_none,w_eq,eInt,rmap_set,spD]
 refine alt_loadR rfl rfl (row_at q4.2) (by simp only [↓reduceIte,nA,nL,pt_eq,ag_101,sz_101,dc_cons,dc_nil,SV,eInt] <;> rfl) (regW.of ?_)
 simp only [seval,EMT,w_none,w_eq,ag_101,sz_101,eInt,rmap_set,spD]
 refine regA.one (j := 10) (by kernel_rfl) rfl (regW.of ?_)
 simp only [seval,EMT,w_none,w_eq,und_9,Int.toNat_natCast,q3,eInt,rmap_set,spD]
 refine regA.pureB (j := 11) (d := 84) (by kernel_rfl) rfl rfl (by kernel_rfl) rfl rfl (Nat.le_of_ble_eq_true rfl) ?_
 simp only [seval,EMT,w_none,w_eq,eInt,rmap_set,spD]
 refine ⟨rfl,?_⟩
 refine regA.pureB (j := 12) (d := 85) (by kernel_rfl) rfl rfl (by kernel_rfl) rfl rfl (Nat.le_of_ble_eq_true rfl) ?_
 simp only [seval,EMT,w_none,w_eq,und_5,und_101,eInt,rmap_set,spD]
 refine ⟨rfl,?_⟩
 refine regA.pureB (j := 14) (d := 87) (by kernel_rfl) rfl rfl (by kernel_rfl) rfl rfl (Nat.le_of_ble_eq_true rfl) ?_
 simp only [seval,EMT,w_none,w_eq,eInt,rmap_set,spD]
 refine ⟨rfl,?_⟩
 refine regA.pureB (j := 15) (d := 88) (by kernel_rfl) rfl rfl (by kernel_rfl) rfl rfl (Nat.le_of_ble_eq_true rfl) ?_
 simp only [seval,EMT,w_none,w_eq,eInt,rmap_set,spD]
 refine ⟨rfl,?_⟩
 refine regA.one (j := 16) (by kernel_rfl) rfl (regW.alt 0 rfl ?_)
 simp only [seval,EMT,w_none,w_eq,eInt,rmap_set,spD]
 refine alt_indexR rfl rfl rfl und_49 sz_101 (row_lo q5.1) (row_hi q5.2 q5.1) (regW.of ?_)
 simp only [seval,EMT,w_none,w_eq,und_49,sz_101,eInt,rmap_set,spD]
 refine regA.one (j := 17) (by kernel_rfl) rfl (regW.alt 0 rfl ?_)
 simp only [seval,EMT,w_none,w_eq,eInt,rmap_set,spD]
 refine alt_storeR rfl rfl (row_at q5.2) rfl rfl sz_101 rfl (Nat.le_of_ble_eq_true rfl) (regW.of ?_)
 simp only [seval,EMT,w_none,w_eq,sz_101,eInt,rmap_set,spD]
 exact regA.nil (by kernel_rfl) ⟨rfl,rfl⟩
 refine regW.of ?_
 simp only [seval,EMT,w_none,w_eq,und_9,Int.toNat_natCast,q3,eInt,rmap_set,spD]
 refine regA.pureB (j := 11) (d := 84) (by kernel_rfl) rfl rfl (by kernel_rfl) rfl rfl (Nat.le_of_ble_eq_true rfl) ?_
 simp only [seval,EMT,w_none,w_eq,eInt,rmap_set,spD]
 refine ⟨rfl,?_⟩
 refine regA.pureB (j := 12) (d := 85) (by kernel_rfl) rfl rfl (by kernel_rfl) rfl rfl (Nat.le_of_ble_eq_true rfl) ?_
 simp only [seval,EMT,w_none,w_eq,und_5,und_101,eInt,rmap_set,spD]
 refine ⟨rfl,?_⟩
 refine regA.pureB (j := 14) (d := 87) (by kernel_rfl) rfl rfl (by kernel_rfl) rfl rfl (Nat.le_of_ble_eq_true rfl) ?_
 simp only [seval,EMT,w_none,w_eq,eInt,rmap_set,spD]
 refine ⟨rfl,?_⟩
 refine regA.one (j := 7) (by kernel_rfl) rfl (regW.alt 0 rfl ?_)
 simp only [seval,EMT,w_none,w_eq,eInt,rmap_set,spD]
 refine alt_loadR rfl rfl (row_at q4.2) (by simp only [↓reduceIte,nA,nL,pt_eq,ag_101,sz_101,dc_cons,dc_nil,SV,eInt] <;> rfl) (regW.of ?_)
 simp only [seval,EMT,w_none,w_eq,ag_101,sz_101,eInt,rmap_set,spD]
 refine regA.pureB (j := 15) (d := 88) (by kernel_rfl) rfl rfl (by kernel_rfl) rfl rfl (Nat.le_of_ble_eq_true rfl) ?_
 simp only [seval,EMT,w_none,w_eq,eInt,rmap_set,spD]
 refine ⟨rfl,?_⟩
 refine regA.one (j := 16) (by kernel_rfl) rfl (regW.alt 0 rfl ?_)
 simp only [seval,EMT,w_none,w_eq,eInt,rmap_set,spD]
 refine alt_indexR rfl rfl rfl und_49 sz_101 (row_lo q5.1) (row_hi q5.2 q5.1) (regW.of ?_)
 simp only [seval,EMT,w_none,w_eq,und_49,sz_101,eInt,rmap_set,spD]
 refine regA.one (j := 17) (by kernel_rfl) rfl (regW.alt 0 rfl ?_)
 simp only [seval,EMT,w_none,w_eq,eInt,rmap_set,spD]
 refine alt_storeR rfl rfl (row_at q5.2) rfl rfl sz_101 rfl (Nat.le_of_ble_eq_true rfl) (regW.of ?_)
 simp only [seval,EMT,w_none,w_eq,sz_101,eInt,rmap_set,spD]
 exact regA.nil (by kernel_rfl) ⟨rfl,rfl⟩
 refine regW.of ?_
 simp only [seval,EMT,w_none,w_eq,und_9,Int.toNat_natCast,q3,eInt,rmap_set,spD]
 refine regA.pureB (j := 11) (d := 84) (by kernel_rfl) rfl rfl (by kernel_rfl) rfl rfl (Nat.le_of_ble_eq_true rfl) ?_
 simp only [seval,EMT,w_none,w_eq,eInt,rmap_set,spD]
 refine ⟨rfl,?_⟩
 refine regA.pureB (j := 12) (d := 85) (by kernel_rfl) rfl rfl (by kernel_rfl) rfl rfl (Nat.le_of_ble_eq_true rfl) ?_
 simp only [seval,EMT,w_none,w_eq,und_5,und_101,eInt,rmap_set,spD]
 refine ⟨rfl,?_⟩
 refine regA.pureB (j := 14) (d := 87) (by kernel_rfl) rfl rfl (by kernel_rfl) rfl rfl (Nat.le_of_ble_eq_true rfl) ?_
 simp only [seval,EMT,w_none,w_eq,eInt,rmap_set,spD]
 refine ⟨rfl,?_⟩
 refine regA.one (j := 6) (by kernel_rfl) rfl (regW.alt 0 rfl ?_)
 simp only [seval,EMT,w_none,w_eq,eInt,rmap_set,spD]
 refine alt_indexR rfl rfl rfl und_49 sz_101 (row_lo q4.1) (row_hi q4.2 q4.1) (regW.of ?_)
 simp only [seval,EMT,w_none,w_eq,und_49,sz_101,eInt,rmap_set,spD]
 refine regA.one (j := 7) (by kernel_rfl) rfl (regW.alt 0 rfl ?_)
 simp only [seval,EMT,w_none,w_eq,eInt,rmap_set,spD]
 refine alt_loadR rfl rfl (row_at q4.2) (by simp only [↓reduceIte,nA,nL,pt_eq,ag_101,sz_101,dc_cons,dc_nil,SV,eInt] <;> rfl) (regW.of ?_)
 simp only [seval,EMT,w_none,w_eq,ag_101,sz_101,eInt,rmap_set,spD]
 refine regA.pureB (j := 15) (d := 88) (by kernel_rfl) rfl rfl (by kernel_rfl) rfl rfl (Nat.le_of_ble_eq_true rfl) ?_
 simp only [seval,EMT,w_none,w_eq,eInt,rmap_set,spD]
 refine ⟨rfl,?_⟩
 refine regA.one (j := 16) (by kernel_rfl) rfl (regW.alt 0 rfl ?_)
 simp only [seval,EMT,w_none,w_eq,eInt,rmap_set,spD]
 refine alt_indexR rfl rfl rfl und_49 sz_101 (row_lo q5.1) (row_hi q5.2 q5.1) (regW.of ?_)
 simp only [seval,EMT,w_none,w_eq,und_49,sz_101,eInt,rmap_set,spD]
 refine regA.one (j := 17) (by kernel_rfl) rfl (regW.alt 0 rfl ?_)
 simp only [seval,EMT,w_none,w_eq,eInt,rmap_set,spD]
 refine alt_storeR rfl rfl (row_at q5.2) rfl rfl sz_101 rfl (Nat.le_of_ble_eq_true rfl) (regW.of ?_)
 simp only [seval,EMT,w_none,w_eq,sz_101,eInt,rmap_set,spD]
 exact regA.nil (by kernel_rfl) ⟨rfl,rfl⟩
 refine regW.alt 0 rfl ?_
 simp only [seval,EMT,w_none,w_eq,eInt,rmap_set,spD]
 refine alt_indexR rfl rfl rfl und_49 sz_101 (row_lo q4.1) (row_hi q4.2 q4.1) (regW.of ?_)
 simp only [seval,EMT,w_none,w_eq,und_49,sz_101,eInt,rmap_set,spD]
 refine regA.three (j := 0) (k := 7) (l := 10) (by kernel_rfl) rfl rfl rfl ?_ ?_ ?_
 refine regW.of ?_
 simp only [seval,EMT,w_none,w_eq,eInt,rmap_set,spD]
 refine regA.two (j := 7) (k := 10) (by kernel_rfl) rfl rfl ?_ ?_
 refine regW.alt 0 rfl ?_
 simp only [seval,EMT,w_none,w_eq,eInt,rmap_set,spD]
 refine alt_loadR rfl rfl (row_at q4.2) (by simp only [↓reduceIte,nA,nL,pt_eq,ag_101,sz_101,dc_cons,dc_nil,SV,eInt] <;> rfl) (regW.of ?_)
 simp only [seval,EMT,w_none,w_eq,ag_101,sz_101,eInt,rmap_set,spD]
 refine regA.one (j := 10) (by kernel_rfl) rfl (regW.of ?_)
 simp only [seval,EMT,w_none,w_eq,und_9,Int.toNat_natCast,q3,eInt,rmap_set,spD]
 refine regA.pureB (j := 11) (d := 84) (by kernel_rfl) rfl rfl (by kernel_rfl) rfl rfl (Nat.le_of_ble_eq_true rfl) ?_
 simp only [seval,EMT,w_none,w_eq,eInt,rmap_set,spD]
 refine ⟨rfl,?_⟩
 refine regA.pureB (j := 12) (d := 85) (by kernel_rfl) rfl rfl (by kernel_rfl) rfl rfl (Nat.le_of_ble_eq_true rfl) ?_
 simp only [seval,EMT,w_none,w_eq,und_5,und_101,eInt,rmap_set,spD]
 refine ⟨rfl,?_⟩
 refine regA.pureB (j := 14) (d := 87) (by kernel_rfl) rfl rfl (by kernel_rfl) rfl rfl (Nat.le_of_ble_eq_true rfl) ?_
 simp only [seval,EMT,w_none,w_eq,eInt,rmap_set,spD]
 refine ⟨rfl,?_⟩
 refine regA.pureB (j := 15) (d := 88) (by kernel_rfl) rfl rfl (by kernel_rfl) rfl rfl (Nat.le_of_ble_eq_true rfl) ?_
 simp only [seval,EMT,w_none,w_eq,eInt,rmap_set,spD]
 refine ⟨rfl,?_⟩
 refine regA.one (j := 16) (by kernel_rfl) rfl (regW.alt 0 rfl ?_)
 simp only [seval,EMT,w_none,w_eq,eInt,rmap_set,spD]
 refine alt_indexR rfl rfl rfl und_49 sz_101 (row_lo q5.1) (row_hi q5.2 q5.1) (regW.of ?_)
 simp only [seval,EMT,w_none,w_eq,und_49,sz_101,eInt,rmap_set,spD]
 refine regA.one (j := 17) (by kernel_rfl) rfl (regW.alt 0 rfl ?_)
 simp only [seval,EMT,w_none,w_eq,eInt,rmap_set,spD]
 refine alt_storeR rfl rfl (row_at q5.2) rfl rfl sz_101 rfl (Nat.le_of_ble_eq_true rfl) (regW.of ?_)
 simp only [seval,EMT,w_none,w_eq,sz_101,eInt,rmap_set,spD]
 exact regA.nil (by kernel_rfl) ⟨rfl,rfl⟩
 refine regW.of ?_
 simp only [seval,EMT,w_none,w_eq,und_9,Int.toNat_natCast,q3,eInt,rmap_set,spD]
 refine regA.pureB (j := 11) (d := 84) (by kernel_rfl) rfl rfl (by kernel_rfl) rfl rfl (Nat.le_of_ble_eq_true rfl) ?_
 simp only [seval,EMT,w_none,w_eq,eInt,rmap_set,spD]
 refine ⟨rfl,?_⟩
 refine regA.pureB (j := 12) (d := 85) (by kernel_rfl) rfl rfl (by kernel_rfl) rfl rfl (Nat.le_of_ble_eq_true rfl) ?_
 simp only [seval,EMT,w_none,w_eq,und_5,und_101,eInt,rmap_set,spD]
 refine ⟨rfl,?_⟩
 refine regA.pureB (j := 14) (d := 87) (by kernel_rfl) rfl rfl (by kernel_rfl) rfl rfl (Nat.le_of_ble_eq_true rfl) ?_
 simp only [seval,EMT,w_none,w_eq,eInt,rmap_set,spD]
 refine ⟨rfl,?_⟩
 refine regA.one (j := 7) (by kernel_rfl) rfl (regW.alt 0 rfl ?_)
 simp only [seval,EMT,w_none,w_eq,eInt,rmap_set,spD]
 refine alt_loadR rfl rfl (row_at q4.2) (by simp only [↓reduceIte,nA,nL,pt_eq,ag_101,sz_101,dc_cons,dc_nil,SV,eInt] <;> rfl) (regW.of ?_)
 simp only [seval,EMT,w_none,w_eq,ag_101,sz_101,eInt,rmap_set,spD]
 refine regA.pureB (j := 15) (d := 88) (by kernel_rfl) rfl rfl (by kernel_rfl) rfl rfl (Nat.le_of_ble_eq_true rfl) ?_
 simp only [seval,EMT,w_none,w_eq,eInt,rmap_set,spD]
 refine ⟨rfl,?_⟩
 refine regA.one (j := 16) (by kernel_rfl) rfl (regW.alt 0 rfl ?_)
 simp only [seval,EMT,w_none,w_eq,eInt,rmap_set,spD]
 refine alt_indexR rfl rfl rfl und_49 sz_101 (row_lo q5.1) (row_hi q5.2 q5.1) (regW.of ?_)
 simp only [seval,EMT,w_none,w_eq,und_49,sz_101,eInt,rmap_set,spD]
 refine regA.one (j := 17) (by kernel_rfl) rfl (regW.alt 0 rfl ?_)
 simp only [seval,EMT,w_none,w_eq,eInt,rmap_set,spD]
 refine alt_storeR rfl rfl (row_at q5.2) rfl rfl sz_101 rfl (Nat.le_of_ble_eq_true rfl) (regW.of ?_)
 simp only [seval,EMT,w_none,w_eq,sz_101,eInt,rmap_set,spD]
 exact regA.nil (by kernel_rfl) ⟨rfl,rfl⟩
 refine regW.alt 0 rfl ?_
 simp only [seval,EMT,w_none,w_eq,eInt,rmap_set,spD]
 refine alt_loadR rfl rfl (row_at q4.2) (by simp only [↓reduceIte,nA,nL,pt_eq,ag_101,sz_101,dc_cons,dc_nil,SV,eInt] <;> rfl) (regW.of ?_)
 simp only [seval,EMT,w_none,w_eq,ag_101,sz_101,eInt,rmap_set,spD]
 refine regA.two (j := 0) (k := 10) (by kernel_rfl) rfl rfl ?_ ?_
 refine regW.of ?_
 simp only [seval,EMT,w_none,w_eq,eInt,rmap_set,spD]
 refine regA.one (j := 10) (by kernel_rfl) rfl (regW.of ?_)
 simp only [seval,EMT,w_none,w_eq,und_9,Int.toNat_natCast,q3,eInt,rmap_set,spD]
 refine regA.pureB (j := 11) (d := 84) (by kernel_rfl) rfl rfl (by kernel_rfl) rfl rfl (Nat.le_of_ble_eq_true rfl) ?_
 simp only [seval,EMT,w_none,w_eq,eInt,rmap_set,spD]
 refine ⟨rfl,?_⟩
 refine regA.pureB (j := 12) (d := 85) (by kernel_rfl) rfl rfl (by kernel_rfl) rfl rfl (Nat.le_of_ble_eq_true rfl) ?_
 simp only [seval,EMT,w_none,w_eq,und_5,und_101,eInt,rmap_set,spD]
 refine ⟨rfl,?_⟩
 refine regA.pureB (j := 14) (d := 87) (by kernel_rfl) rfl rfl (by kernel_rfl) rfl rfl (Nat.le_of_ble_eq_true rfl) ?_
 simp only [seval,EMT,w_none,w_eq,eInt,rmap_set,spD]
 refine ⟨rfl,?_⟩
 refine regA.pureB (j := 15) (d := 88) (by kernel_rfl) rfl rfl (by kernel_rfl) rfl rfl (Nat.le_of_ble_eq_true rfl) ?_
 simp only [seval,EMT,w_none,w_eq,eInt,rmap_set,spD]
 refine ⟨rfl,?_⟩
 refine regA.one (j := 16) (by kernel_rfl) rfl (regW.alt 0 rfl ?_)
 simp only [seval,EMT,w_none,w_eq,eInt,rmap_set,spD]
 refine alt_indexR rfl rfl rfl und_49 sz_101 (row_lo q5.1) (row_hi q5.2 q5.1) (regW.of ?_)
 simp only [seval,EMT,w_none,w_eq,und_49,sz_101,eInt,rmap_set,spD]
 refine regA.one (j := 17) (by kernel_rfl) rfl (regW.alt 0 rfl ?_)
 simp only [seval,EMT,w_none,w_eq,eInt,rmap_set,spD]
 refine alt_storeR rfl rfl (row_at q5.2) rfl rfl sz_101 rfl (Nat.le_of_ble_eq_true rfl) (regW.of ?_)
 simp only [seval,EMT,w_none,w_eq,sz_101,eInt,rmap_set,spD]
 exact regA.nil (by kernel_rfl) ⟨rfl,rfl⟩
 refine regW.of ?_
 simp only [seval,EMT,w_none,w_eq,und_9,Int.toNat_natCast,q3,eInt,rmap_set,spD]
 refine regA.pureB (j := 11) (d := 84) (by kernel_rfl) rfl rfl (by kernel_rfl) rfl rfl (Nat.le_of_ble_eq_true rfl) ?_
 simp only [seval,EMT,w_none,w_eq,eInt,rmap_set,spD]
 refine ⟨rfl,?_⟩
 refine regA.pureB (j := 12) (d := 85) (by kernel_rfl) rfl rfl (by kernel_rfl) rfl rfl (Nat.le_of_ble_eq_true rfl) ?_
 simp only [seval,EMT,w_none,w_eq,und_5,und_101,eInt,rmap_set,spD]
 refine ⟨rfl,?_⟩
 refine regA.pureB (j := 14) (d := 87) (by kernel_rfl) rfl rfl (by kernel_rfl) rfl rfl (Nat.le_of_ble_eq_true rfl) ?_
 simp only [seval,EMT,w_none,w_eq,eInt,rmap_set,spD]
 refine ⟨rfl,?_⟩
 refine regA.pureB (j := 15) (d := 88) (by kernel_rfl) rfl rfl (by kernel_rfl) rfl rfl (Nat.le_of_ble_eq_true rfl) ?_
 simp only [seval,EMT,w_none,w_eq,eInt,rmap_set,spD]
 refine ⟨rfl,?_⟩
 refine regA.one (j := 0) (by kernel_rfl) rfl (regW.of ?_)
 simp only [seval,EMT,w_none,w_eq,eInt,rmap_set,spD]
 refine regA.one (j := 16) (by kernel_rfl) rfl (regW.alt 0 rfl ?_)
 simp only [seval,EMT,w_none,w_eq,eInt,rmap_set,spD]
 refine alt_indexR rfl rfl rfl und_49 sz_101 (row_lo q5.1) (row_hi q5.2 q5.1) (regW.of ?_)
 simp only [seval,EMT,w_none,w_eq,und_49,sz_101,eInt,rmap_set,spD]
 refine regA.one (j := 17) (by kernel_rfl) rfl (regW.alt 0 rfl ?_)
 simp only [seval,EMT,w_none,w_eq,eInt,rmap_set,spD]
 refine alt_storeR rfl rfl (row_at q5.2) rfl rfl sz_101 rfl (Nat.le_of_ble_eq_true rfl) (regW.of ?_)
 simp only [seval,EMT,w_none,w_eq,sz_101,eInt,rmap_set,spD]
 exact regA.nil (by kernel_rfl) ⟨rfl,rfl⟩
 refine regW.of ?_
 simp only [seval,EMT,w_none,w_eq,und_9,Int.toNat_natCast,q3,eInt,rmap_set,spD]
 refine regA.pureB (j := 11) (d := 84) (by kernel_rfl) rfl rfl (by kernel_rfl) rfl rfl (Nat.le_of_ble_eq_true rfl) ?_
 simp only [seval,EMT,w_none,w_eq,eInt,rmap_set,spD]
 refine ⟨rfl,?_⟩
 refine regA.pureB (j := 12) (d := 85) (by kernel_rfl) rfl rfl (by kernel_rfl) rfl rfl (Nat.le_of_ble_eq_true rfl) ?_
 simp only [seval,EMT,w_none,w_eq,und_5,und_101,eInt,rmap_set,spD]
 refine ⟨rfl,?_⟩
 refine regA.pureB (j := 14) (d := 87) (by kernel_rfl) rfl rfl (by kernel_rfl) rfl rfl (Nat.le_of_ble_eq_true rfl) ?_
 simp only [seval,EMT,w_none,w_eq,eInt,rmap_set,spD]
 refine ⟨rfl,?_⟩
 refine regA.two (j := 0) (k := 7) (by kernel_rfl) rfl rfl ?_ ?_
 refine regW.of ?_
 simp only [seval,EMT,w_none,w_eq,eInt,rmap_set,spD]
 refine regA.one (j := 7) (by kernel_rfl) rfl (regW.alt 0 rfl ?_)
 simp only [seval,EMT,w_none,w_eq,eInt,rmap_set,spD]
 refine alt_loadR rfl rfl (row_at q4.2) (by simp only [↓reduceIte,nA,nL,pt_eq,ag_101,sz_101,dc_cons,dc_nil,SV,eInt] <;> rfl) (regW.of ?_)
 simp only [seval,EMT,w_none,w_eq,ag_101,sz_101,eInt,rmap_set,spD]
 refine regA.pureB (j := 15) (d := 88) (by kernel_rfl) rfl rfl (by kernel_rfl) rfl rfl (Nat.le_of_ble_eq_true rfl) ?_
 simp only [seval,EMT,w_none,w_eq,eInt,rmap_set,spD]
 refine ⟨rfl,?_⟩
 refine regA.one (j := 16) (by kernel_rfl) rfl (regW.alt 0 rfl ?_)
 simp only [seval,EMT,w_none,w_eq,eInt,rmap_set,spD]
 refine alt_indexR rfl rfl rfl und_49 sz_101 (row_lo q5.1) (row_hi q5.2 q5.1) (regW.of ?_)
 simp only [seval,EMT,w_none,w_eq,und_49,sz_101,eInt,rmap_set,spD]
 refine regA.one (j := 17) (by kernel_rfl) rfl (regW.alt 0 rfl ?_)
 simp only [seval,EMT,w_none,w_eq,eInt,rmap_set,spD]
 refine alt_storeR rfl rfl (row_at q5.2) rfl rfl sz_101 rfl (Nat.le_of_ble_eq_true rfl) (regW.of ?_)
 simp only [seval,EMT,w_none,w_eq,sz_101,eInt,rmap_set,spD]
 exact regA.nil (by kernel_rfl) ⟨rfl,rfl⟩
 refine regW.alt 0 rfl ?_
 simp only [seval,EMT,w_none,w_eq,eInt,rmap_set,spD]
 refine alt_loadR rfl rfl (row_at q4.2) (by simp only [↓reduceIte,nA,nL,pt_eq,ag_101,sz_101,dc_cons,dc_nil,SV,eInt] <;> rfl) (regW.of ?_)
 simp only [seval,EMT,w_none,w_eq,ag_101,sz_101,eInt,rmap_set,spD]
 refine regA.pureB (j := 15) (d := 88) (by kernel_rfl) rfl rfl (by kernel_rfl) rfl rfl (Nat.le_of_ble_eq_true rfl) ?_
 simp only [seval,EMT,w_none,w_eq,eInt,rmap_set,spD]
 refine ⟨rfl,?_⟩
 refine regA.one (j := 0) (by kernel_rfl) rfl (regW.of ?_)
 simp only [seval,EMT,w_none,w_eq,eInt,rmap_set,spD]
 refine regA.one (j := 16) (by kernel_rfl) rfl (regW.alt 0 rfl ?_)
 simp only [seval,EMT,w_none,w_eq,eInt,rmap_set,spD]
 refine alt_indexR rfl rfl rfl und_49 sz_101 (row_lo q5.1) (row_hi q5.2 q5.1) (regW.of ?_)
 simp only [seval,EMT,w_none,w_eq,und_49,sz_101,eInt,rmap_set,spD]
 refine regA.one (j := 17) (by kernel_rfl) rfl (regW.alt 0 rfl ?_)
 simp only [seval,EMT,w_none,w_eq,eInt,rmap_set,spD]
 refine alt_storeR rfl rfl (row_at q5.2) rfl rfl sz_101 rfl (Nat.le_of_ble_eq_true rfl) (regW.of ?_)
 simp only [seval,EMT,w_none,w_eq,sz_101,eInt,rmap_set,spD]
 exact regA.nil (by kernel_rfl) ⟨rfl,rfl⟩
 refine regW.of ?_
 simp only [seval,EMT,w_none,w_eq,und_9,Int.toNat_natCast,q3,eInt,rmap_set,spD]
 refine regA.pureB (j := 11) (d := 84) (by kernel_rfl) rfl rfl (by kernel_rfl) rfl rfl (Nat.le_of_ble_eq_true rfl) ?_
 simp only [seval,EMT,w_none,w_eq,eInt,rmap_set,spD]
 refine ⟨rfl,?_⟩
 refine regA.pureB (j := 12) (d := 85) (by kernel_rfl) rfl rfl (by kernel_rfl) rfl rfl (Nat.le_of_ble_eq_true rfl) ?_
 simp only [seval,EMT,w_none,w_eq,und_5,und_101,eInt,rmap_set,spD]
 refine ⟨rfl,?_⟩
 refine regA.pureB (j := 14) (d := 87) (by kernel_rfl) rfl rfl (by kernel_rfl) rfl rfl (Nat.le_of_ble_eq_true rfl) ?_
 simp only [seval,EMT,w_none,w_eq,eInt,rmap_set,spD]
 refine ⟨rfl,?_⟩
 refine regA.two (j := 0) (k := 6) (by kernel_rfl) rfl rfl ?_ ?_
 refine regW.of ?_
 simp only [seval,EMT,w_none,w_eq,eInt,rmap_set,spD]
 refine regA.one (j := 6) (by kernel_rfl) rfl (regW.alt 0 rfl ?_)
 simp only [seval,EMT,w_none,w_eq,eInt,rmap_set,spD]
 refine alt_indexR rfl rfl rfl und_49 sz_101 (row_lo q4.1) (row_hi q4.2 q4.1) (regW.of ?_)
 simp only [seval,EMT,w_none,w_eq,und_49,sz_101,eInt,rmap_set,spD]
 refine regA.one (j := 7) (by kernel_rfl) rfl (regW.alt 0 rfl ?_)
 simp only [seval,EMT,w_none,w_eq,eInt,rmap_set,spD]
 refine alt_loadR rfl rfl (row_at q4.2) (by simp only [↓reduceIte,nA,nL,pt_eq,ag_101,sz_101,dc_cons,dc_nil,SV,eInt] <;> rfl) (regW.of ?_)
 simp only [seval,EMT,w_none,w_eq,ag_101,sz_101,eInt,rmap_set,spD]
 refine regA.pureB (j := 15) (d := 88) (by kernel_rfl) rfl rfl (by kernel_rfl) rfl rfl (Nat.le_of_ble_eq_true rfl) ?_
 simp only [seval,EMT,w_none,w_eq,eInt,rmap_set,spD]
 refine ⟨rfl,?_⟩
 refine regA.one (j := 16) (by kernel_rfl) rfl (regW.alt 0 rfl ?_)
 simp only [seval,EMT,w_none,w_eq,eInt,rmap_set,spD]
 refine alt_indexR rfl rfl rfl und_49 sz_101 (row_lo q5.1) (row_hi q5.2 q5.1) (regW.of ?_)
 simp only [seval,EMT,w_none,w_eq,und_49,sz_101,eInt,rmap_set,spD]
 refine regA.one (j := 17) (by kernel_rfl) rfl (regW.alt 0 rfl ?_)
 simp only [seval,EMT,w_none,w_eq,eInt,rmap_set,spD]
 refine alt_storeR rfl rfl (row_at q5.2) rfl rfl sz_101 rfl (Nat.le_of_ble_eq_true rfl) (regW.of ?_)
 simp only [seval,EMT,w_none,w_eq,sz_101,eInt,rmap_set,spD]
 exact regA.nil (by kernel_rfl) ⟨rfl,rfl⟩
 refine regW.alt 0 rfl ?_
 simp only [seval,EMT,w_none,w_eq,eInt,rmap_set,spD]
 refine alt_indexR rfl rfl rfl und_49 sz_101 (row_lo q4.1) (row_hi q4.2 q4.1) (regW.of ?_)
 simp only [seval,EMT,w_none,w_eq,und_49,sz_101,eInt,rmap_set,spD]
 refine regA.two (j := 0) (k := 7) (by kernel_rfl) rfl rfl ?_ ?_
 refine regW.of ?_
 simp only [seval,EMT,w_none,w_eq,eInt,rmap_set,spD]
 refine regA.one (j := 7) (by kernel_rfl) rfl (regW.alt 0 rfl ?_)
 simp only [seval,EMT,w_none,w_eq,eInt,rmap_set,spD]
 refine alt_loadR rfl rfl (row_at q4.2) (by simp only [↓reduceIte,nA,nL,pt_eq,ag_101,sz_101,dc_cons,dc_nil,SV,eInt] <;> rfl) (regW.of ?_)
 simp only [seval,EMT,w_none,w_eq,ag_101,sz_101,eInt,rmap_set,spD]
 refine regA.pureB (j := 15) (d := 88) (by kernel_rfl) rfl rfl (by kernel_rfl) rfl rfl (Nat.le_of_ble_eq_true rfl) ?_
 simp only [seval,EMT,w_none,w_eq,eInt,rmap_set,spD]
 refine ⟨rfl,?_⟩
 refine regA.one (j := 16) (by kernel_rfl) rfl (regW.alt 0 rfl ?_)
 simp only [seval,EMT,w_none,w_eq,eInt,rmap_set,spD]
 refine alt_indexR rfl rfl rfl und_49 sz_101 (row_lo q5.1) (row_hi q5.2 q5.1) (regW.of ?_)
 simp only [seval,EMT,w_none,w_eq,und_49,sz_101,eInt,rmap_set,spD]
 refine regA.one (j := 17) (by kernel_rfl) rfl (regW.alt 0 rfl ?_)
 simp only [seval,EMT,w_none,w_eq,eInt,rmap_set,spD]
 refine alt_storeR rfl rfl (row_at q5.2) rfl rfl sz_101 rfl (Nat.le_of_ble_eq_true rfl) (regW.of ?_)
 simp only [seval,EMT,w_none,w_eq,sz_101,eInt,rmap_set,spD]
 exact regA.nil (by kernel_rfl) ⟨rfl,rfl⟩
 refine regW.alt 0 rfl ?_
 simp only [seval,EMT,w_none,w_eq,eInt,rmap_set,spD]
 refine alt_loadR rfl rfl (row_at q4.2) (by simp only [↓reduceIte,nA,nL,pt_eq,ag_101,sz_101,dc_cons,dc_nil,SV,eInt] <;> rfl) (regW.of ?_)
 simp only [seval,EMT,w_none,w_eq,ag_101,sz_101,eInt,rmap_set,spD]
 refine regA.pureB (j := 15) (d := 88) (by kernel_rfl) rfl rfl (by kernel_rfl) rfl rfl (Nat.le_of_ble_eq_true rfl) ?_
 simp only [seval,EMT,w_none,w_eq,eInt,rmap_set,spD]
 refine ⟨rfl,?_⟩
 refine regA.one (j := 0) (by kernel_rfl) rfl (regW.of ?_)
 simp only [seval,EMT,w_none,w_eq,eInt,rmap_set,spD]
 refine regA.one (j := 16) (by kernel_rfl) rfl (regW.alt 0 rfl ?_)
 simp only [seval,EMT,w_none,w_eq,eInt,rmap_set,spD]
 refine alt_indexR rfl rfl rfl und_49 sz_101 (row_lo q5.1) (row_hi q5.2 q5.1) (regW.of ?_)
 simp only [seval,EMT,w_none,w_eq,und_49,sz_101,eInt,rmap_set,spD]
 refine regA.one (j := 17) (by kernel_rfl) rfl (regW.alt 0 rfl ?_)
 simp only [seval,EMT,w_none,w_eq,eInt,rmap_set,spD]
 refine alt_storeR rfl rfl (row_at q5.2) rfl rfl sz_101 rfl (Nat.le_of_ble_eq_true rfl) (regW.of ?_)
 simp only [seval,EMT,w_none,w_eq,sz_101,eInt,rmap_set,spD]
 exact regA.nil (by kernel_rfl) ⟨rfl,rfl⟩
 refine regW.of ?_
 simp only [seval,EMT,w_none,w_eq,und_9,Int.toNat_natCast,q3,eInt,rmap_set,spD]
 refine regA.pureB (j := 11) (d := 84) (by kernel_rfl) rfl rfl (by kernel_rfl) rfl rfl (Nat.le_of_ble_eq_true rfl) ?_
 simp only [seval,EMT,w_none,w_eq,eInt,rmap_set,spD]
 refine ⟨rfl,?_⟩
 refine regA.pureB (j := 12) (d := 85) (by kernel_rfl) rfl rfl (by kernel_rfl) rfl rfl (Nat.le_of_ble_eq_true rfl) ?_
 simp only [seval,EMT,w_none,w_eq,und_5,und_101,eInt,rmap_set,spD]
 refine ⟨rfl,?_⟩
 refine regA.pureB (j := 14) (d := 87) (by kernel_rfl) rfl rfl (by kernel_rfl) rfl rfl (Nat.le_of_ble_eq_true rfl) ?_
 simp only [seval,EMT,w_none,w_eq,eInt,rmap_set,spD]
 refine ⟨rfl,?_⟩
 refine regA.two (j := 0) (k := 3) (by kernel_rfl) rfl rfl ?_ ?_
 refine regW.of ?_
 simp only [seval,EMT,w_none,w_eq,eInt,rmap_set,spD]
 refine regA.one (j := 3) (by kernel_rfl) rfl (regW.of ?_)
 simp only [seval,EMT,w_none,w_eq,eInt,rmap_set,spD]
 refine regA.one (j := 6) (by kernel_rfl) rfl (regW.alt 0 rfl ?_)
 simp only [seval,EMT,w_none,w_eq,eInt,rmap_set,spD]
 refine alt_indexR rfl rfl rfl und_49 sz_101 (row_lo q4.1) (row_hi q4.2 q4.1) (regW.of ?_)
 simp only [seval,EMT,w_none,w_eq,und_49,sz_101,eInt,rmap_set,spD]
 refine regA.one (j := 7) (by kernel_rfl) rfl (regW.alt 0 rfl ?_)
 simp only [seval,EMT,w_none,w_eq,eInt,rmap_set,spD]
 refine alt_loadR rfl rfl (row_at q4.2) (by simp only [↓reduceIte,nA,nL,pt_eq,ag_101,sz_101,dc_cons,dc_nil,SV,eInt] <;> rfl) (regW.of ?_)
 simp only [seval,EMT,w_none,w_eq,ag_101,sz_101,eInt,rmap_set,spD]
 refine regA.pureB (j := 15) (d := 88) (by kernel_rfl) rfl rfl (by kernel_rfl) rfl rfl (Nat.le_of_ble_eq_true rfl) ?_
 simp only [seval,EMT,w_none,w_eq,eInt,rmap_set,spD]
 refine ⟨rfl,?_⟩
 refine regA.one (j := 16) (by kernel_rfl) rfl (regW.alt 0 rfl ?_)
 simp only [seval,EMT,w_none,w_eq,eInt,rmap_set,spD]
 refine alt_indexR rfl rfl rfl und_49 sz_101 (row_lo q5.1) (row_hi q5.2 q5.1) (regW.of ?_)
 simp only [seval,EMT,w_none,w_eq,und_49,sz_101,eInt,rmap_set,spD]
 refine regA.one (j := 17) (by kernel_rfl) rfl (regW.alt 0 rfl ?_)
 simp only [seval,EMT,w_none,w_eq,eInt,rmap_set,spD]
 refine alt_storeR rfl rfl (row_at q5.2) rfl rfl sz_101 rfl (Nat.le_of_ble_eq_true rfl) (regW.of ?_)
 simp only [seval,EMT,w_none,w_eq,sz_101,eInt,rmap_set,spD]
 exact regA.nil (by kernel_rfl) ⟨rfl,rfl⟩
 refine regW.of ?_
 simp only [seval,EMT,w_none,w_eq,eInt,rmap_set,spD]
 refine regA.two (j := 0) (k := 6) (by kernel_rfl) rfl rfl ?_ ?_
 refine regW.of ?_
 simp only [seval,EMT,w_none,w_eq,eInt,rmap_set,spD]
 refine regA.one (j := 6) (by kernel_rfl) rfl (regW.alt 0 rfl ?_)
 simp only [seval,EMT,w_none,w_eq,eInt,rmap_set,spD]
 refine alt_indexR rfl rfl rfl und_49 sz_101 (row_lo q4.1) (row_hi q4.2 q4.1) (regW.of ?_)
 simp only [seval,EMT,w_none,w_eq,und_49,sz_101,eInt,rmap_set,spD]
 refine regA.one (j := 7) (by kernel_rfl) rfl (regW.alt 0 rfl ?_)
 simp only [seval,EMT,w_none,w_eq,eInt,rmap_set,spD]
 refine alt_loadR rfl rfl (row_at q4.2) (by simp only [↓reduceIte,nA,nL,pt_eq,ag_101,sz_101,dc_cons,dc_nil,SV,eInt] <;> rfl) (regW.of ?_)
 simp only [seval,EMT,w_none,w_eq,ag_101,sz_101,eInt,rmap_set,spD]
 refine regA.pureB (j := 15) (d := 88) (by kernel_rfl) rfl rfl (by kernel_rfl) rfl rfl (Nat.le_of_ble_eq_true rfl) ?_
 simp only [seval,EMT,w_none,w_eq,eInt,rmap_set,spD]
 refine ⟨rfl,?_⟩
 refine regA.one (j := 16) (by kernel_rfl) rfl (regW.alt 0 rfl ?_)
 simp only [seval,EMT,w_none,w_eq,eInt,rmap_set,spD]
 refine alt_indexR rfl rfl rfl und_49 sz_101 (row_lo q5.1) (row_hi q5.2 q5.1) (regW.of ?_)
 simp only [seval,EMT,w_none,w_eq,und_49,sz_101,eInt,rmap_set,spD]
 refine regA.one (j := 17) (by kernel_rfl) rfl (regW.alt 0 rfl ?_)
 simp only [seval,EMT,w_none,w_eq,eInt,rmap_set,spD]
 refine alt_storeR rfl rfl (row_at q5.2) rfl rfl sz_101 rfl (Nat.le_of_ble_eq_true rfl) (regW.of ?_)
 simp only [seval,EMT,w_none,w_eq,sz_101,eInt,rmap_set,spD]
 exact regA.nil (by kernel_rfl) ⟨rfl,rfl⟩
 refine regW.alt 0 rfl ?_
 simp only [seval,EMT,w_none,w_eq,eInt,rmap_set,spD]
 refine alt_indexR rfl rfl rfl und_49 sz_101 (row_lo q4.1) (row_hi q4.2 q4.1) (regW.of ?_)
 simp only [seval,EMT,w_none,w_eq,und_49,sz_101,eInt,rmap_set,spD]
 refine regA.two (j := 0) (k := 7) (by kernel_rfl) rfl rfl ?_ ?_
 refine regW.of ?_
 simp only [seval,EMT,w_none,w_eq,eInt,rmap_set,spD]
 refine regA.one (j := 7) (by kernel_rfl) rfl (regW.alt 0 rfl ?_)
 simp only [seval,EMT,w_none,w_eq,eInt,rmap_set,spD]
 refine alt_loadR rfl rfl (row_at q4.2) (by simp only [↓reduceIte,nA,nL,pt_eq,ag_101,sz_101,dc_cons,dc_nil,SV,eInt] <;> rfl) (regW.of ?_)
 simp only [seval,EMT,w_none,w_eq,ag_101,sz_101,eInt,rmap_set,spD]
 refine regA.pureB (j := 15) (d := 88) (by kernel_rfl) rfl rfl (by kernel_rfl) rfl rfl (Nat.le_of_ble_eq_true rfl) ?_
 simp only [seval,EMT,w_none,w_eq,eInt,rmap_set,spD]
 refine ⟨rfl,?_⟩
 refine regA.one (j := 16) (by kernel_rfl) rfl (regW.alt 0 rfl ?_)
 simp only [seval,EMT,w_none,w_eq,eInt,rmap_set,spD]
 refine alt_indexR rfl rfl rfl und_49 sz_101 (row_lo q5.1) (row_hi q5.2 q5.1) (regW.of ?_)
 simp only [seval,EMT,w_none,w_eq,und_49,sz_101,eInt,rmap_set,spD]
 refine regA.one (j := 17) (by kernel_rfl) rfl (regW.alt 0 rfl ?_)
 simp only [seval,EMT,w_none,w_eq,eInt,rmap_set,spD]
 refine alt_storeR rfl rfl (row_at q5.2) rfl rfl sz_101 rfl (Nat.le_of_ble_eq_true rfl) (regW.of ?_)
 simp only [seval,EMT,w_none,w_eq,sz_101,eInt,rmap_set,spD]
 exact regA.nil (by kernel_rfl) ⟨rfl,rfl⟩
 refine regW.alt 0 rfl ?_
 simp only [seval,EMT,w_none,w_eq,eInt,rmap_set,spD]
 refine alt_loadR rfl rfl (row_at q4.2) (by simp only [↓reduceIte,nA,nL,pt_eq,ag_101,sz_101,dc_cons,dc_nil,SV,eInt] <;> rfl) (regW.of ?_)
 simp only [seval,EMT,w_none,w_eq,ag_101,sz_101,eInt,rmap_set,spD]
 refine regA.pureB (j := 15) (d := 88) (by kernel_rfl) rfl rfl (by kernel_rfl) rfl rfl (Nat.le_of_ble_eq_true rfl) ?_
 simp only [seval,EMT,w_none,w_eq,eInt,rmap_set,spD]
 refine ⟨rfl,?_⟩
 refine regA.one (j := 0) (by kernel_rfl) rfl (regW.of ?_)
 simp only [seval,EMT,w_none,w_eq,eInt,rmap_set,spD]
 refine regA.one (j := 16) (by kernel_rfl) rfl (regW.alt 0 rfl ?_)
 simp only [seval,EMT,w_none,w_eq,eInt,rmap_set,spD]
 refine alt_indexR rfl rfl rfl und_49 sz_101 (row_lo q5.1) (row_hi q5.2 q5.1) (regW.of ?_)
 simp only [seval,EMT,w_none,w_eq,und_49,sz_101,eInt,rmap_set,spD]
 refine regA.one (j := 17) (by kernel_rfl) rfl (regW.alt 0 rfl ?_)
 simp only [seval,EMT,w_none,w_eq,eInt,rmap_set,spD]
 refine alt_storeR rfl rfl (row_at q5.2) rfl rfl sz_101 rfl (Nat.le_of_ble_eq_true rfl) (regW.of ?_)
 simp only [seval,EMT,w_none,w_eq,sz_101,eInt,rmap_set,spD]
 exact regA.nil (by kernel_rfl) ⟨rfl,rfl⟩
 cases h
 simp only [seval,FMT,eInt,rmap_set,spD,Tryz.results37,ag_51,sz_51]
 intro v7
 refine Mir.toK (.region fun e h=>?_)
 simp only [seval,EMT,eInt,rmap_set,spD]
 cases h
 simp only [seval,FMT,eInt,rmap_set,spD,Tryz.results37,ag_51,sz_51,q3]
 intro v4 q7
 refine .seqK (.sR fun e h=>?_)
 simp only [seval,EMT,und_9,q7,eInt,rmap_set,spD]
 refine mU e (.condF rfl (.exit fun e h=>?_)) h
 cases h
 simp only [seval,FMT,eInt,rmap_set,spD,Tryz.results37,ag_51,sz_51]
 intro v8
 refine Mir.toK (.seqK (.frz 1 rfl ?_))
 simp only [seval,us_0,us_s,xCA,xNA,and_self,and_true,true_and,and_false,false_and,SZ]
 refine .bind fun c4 q8=>?_
 replace q8 := gt_ok q8
 simp only [Int.reduceToNat,Int.reduceLT,Nat.sub_zero,dp0] at q8
 refine .bind fun y1 h4=>.region fun e h=>?_
 simp only [seval,EMT,und_9,q8,eInt,rmap_set,spD]
 refine SpecS.by (r01_signed_spec h4) (by simp only [seval,FMT,eInt,rmap_set,spD]) ?_
 simp only [seval,EMT,sz_51,eInt,rmap_set,spD]
 refine mU e (.ret fun e h=>?_) h
 cases h
 simp only [seval,FMT,eInt,rmap_set,spD,Tryz.results37,ag_51,sz_51]
def r06_Parse (a0 : (List UInt8)) : Option (ApiRat × Int) := bindO (r06_Places a0) fun (y1 : Int) => if (decide (y1 < 0)) = true then some (ApiRat.mk (ApiInt.mk false []) (ApiInt.mk false []), 2) else bindO (guardO (okIdx a0) ( rangeX (fun (i1 : Nat) (c1 : UInt8) (v1 : (List UInt8)) => bindO (if ((decide ((c1.toNat : Int) ≥ 48)) && ((decide ((c1.toNat : Int) ≤ 57)) && (!(v1 == []) || ((c1.toNat : Int) != 48)))) = true then bindO (cutL a0 (i1 : Int) (IntKind.i64.wrap ((i1 : Int) + 1))) fun (s1 : (List UInt8)) => guardO (okStr v1 s1) ( some (v1 ++ s1)) else some v1) fun (v2 : (List UInt8)) => some (.go v2)) (fun (v1 : (List UInt8)) => some v1) a0 0 [])) fun (v3 : (List UInt8)) => bindO (if (v3 == []) = true then some [48] else some v3) fun (v4 : (List UInt8)) => bindO (gt a0 0) fun (c2 : UInt8) => bindO (if ((c2.toNat : Int) == 45) = true then guardO (okStr [45] v4) ( some ([45] ++ v4)) else some v4) fun (v5 : (List UInt8)) => bindO (r01_Parse v5) fun (y2 : ApiInt × Int) => bindO (r02_FromInt y2.1) fun (y3 : ApiRat) => bindO (r06_Power y1) fun (y4 : ApiRat) => bindO (r02_Over y3 y4) fun (y5 : ApiRat) => some (y5, 0)
theorem r06_Parse_spec {a0 : (List UInt8)} {y : ApiRat × Int} (h : r06_Parse a0 = some y) : Spec gP 32 [.d (.str a0)] (.tuple [.agg [.d (.bool y.1.Num.Neg), .d (.list (List.map (eInt .u32) y.1.Num.Limbs)), .d (.bool y.1.Den.Neg), .d (.list (List.map (eInt .u32) y.1.Den.Limbs))], .d (.int .i64 y.2)]) := by
 refine spec_mir Tryz.func32 rfl (by kernel_rfl) (by kernel_rfl) (fun y : ApiRat × Int => .tuple [.agg [.d (.bool y.1.Num.Neg), .d (.list (List.map (eInt .u32) y.1.Num.Limbs)), .d (.bool y.1.Den.Neg), .d (.list (List.map (eInt .u32) y.1.Den.Limbs))], .d (.int .i64 y.2)]) ?_ h
 unfold r06_Parse
 simp only [List.replicate, List.length, nS, nA, Tryz.ntmps32, SV]
 refine .sR fun e h=>?_
 simp only [seval,EMT,zero_53]
 refine mU e (.seqK (.bind fun y1 hy1=>.region fun e h=>?_)) h
 simp only [seval,EMT]
 refine SpecS.by (r06_Places_spec hy1) (by simp only [seval,FMT]) ?_
 simp only [seval,EMT]
 refine mU e (.seqK (.sR fun e h=>?_)) h
 simp only [seval,EMT]
 refine mU e (.cond rfl (fun hb3=>?_) (fun hb3=>?_)) h
 refine .sR fun e h=>?_
 simp only [seval,EMT,zero_53,pl_53,sz_53]
 refine mU e (.ret fun e h=>?_) h
 cases h
 simp only [seval,FMT,Tryz.results32,ag_53,sz_53]
 refine .skip (Mir.toK (.sR fun e h=>?_))
 simp only [seval,EMT]
 refine mU e (.seqK (.sR fun e h=>?_)) h
 simp only [seval,EMT]
 refine mU e (Mir.joinO (fun v3 : (List UInt8)=>([.d (.str a0),U,.ptr 0 0,U,.d (.int .i64 y1),.d (.str v3)] ++ us 58)) (fun v3=>⟨[[.d (.bool false),.nil,.d (.bool false),.nil]],[]⟩) (fun _=>rfl) ?_ ?_) h
 refine .block (.guard fun q1=>Mir.range (fun (i1 : Nat) (v1 : (List UInt8))=>([.d (.str a0),U,.ptr 0 0,U,.d (.int .i64 y1),.d (.str v1),.d (.int .i64 (i1 : Int))] ++ us 57)) (fun i1 v1=>⟨[[.d (.bool false),.nil,.d (.bool false),.nil]],[]⟩) q1 (fun _ _=>rfl) (by simp only [seval,FMT,zNI]) (by simp only [seval,FMT,zNI]) ?_ ?_)
 intro i1 c1 v1 q2
 refine .seqK (.sR fun e h=>?_)
 simp only [seval,EMT,und_9,q2]
 refine mU e (.condT rfl (.skip (Mir.toK (.seqK (Mir.joinO (fun v2 : (List UInt8)=>([.d (.str a0),U,.ptr 0 0,U,.d (.int .i64 y1),.d (.str v2),.d (.int .i64 (i1 : Int))] ++ us 57)) (fun v2=>⟨[[.d (.bool false),.nil,.d (.bool false),.nil]],[]⟩) (fun _=>rfl) ?_ ?_))))) h
 refine .block (.seqK (.joinV ([.d (.str a0),U,.ptr 0 0,U,.d (.int .i64 y1),.d (.str v1),.d (.int .i64 (i1 : Int)),U,U,U,U,U,U,U,U,U,U,U,U,U,U,U,U,U,U,U,U,U,U,U,U,U,U,U,U,U,U,U,U,.d (.bool ((decide ((c1.toNat : Int) ≥ 48)) && ((decide ((c1.toNat : Int) ≤ 57)) && (!(v1 == []) || ((c1.toNat : Int) != 48)))))] ++ us 24) ⟨[[.d (.bool false),.nil,.d (.bool false),.nil]],[]⟩ rfl ?_ ?_))
 refine SWs.region ?_
 rcases Bool.eq_false_or_eq_true (decide ((c1.toNat : Int) ≥ 48)) with h1 | h1
 rcases Bool.eq_false_or_eq_true (decide ((c1.toNat : Int) ≤ 57)) with h2 | h2
 rcases Bool.eq_false_or_eq_true (v1 == []) with h3 | h3
 simp only [seval,EMT,SL,PB,und_9,Int.toNat_natCast,q2,h1,h2,h3]
 simp only [seval,EMT,SL,PB,und_9,Int.toNat_natCast,q2,h1,h2,h3]
 simp only [seval,EMT,SL,PB,und_9,Int.toNat_natCast,q2,h1,h2]
 simp only [seval,EMT,SL,PB,und_9,Int.toNat_natCast,q2,h1]
 refine Mir.toK (.cond rfl (fun h4=>?_) (fun h4=>?_))
 refine .bind fun s1 q3=>?_
 replace q3 := cutL_ok q3
 simp only [Int.toNat_natCast] at q3
 refine .guard fun q4=>?_
 replace q4 := okStr_ok q4
 refine .region fun e h=>?_
 simp only [seval,EMT,und_9,q3,Nat.le_refl,and_true,true_and,dm,tm,Int.toNat_natCast,q4]
 cases h
 simp only [seval,FMT,Tryz.results32,ag_53,sz_53]
 refine .skip fun e h=>?_
 cases h
 simp only [seval,FMT,Tryz.results32,ag_53,sz_53]
 intro v2
 refine Mir.toK (.region fun e h=>?_)
 simp only [seval,EMT]
 cases h
 simp only [seval,FMT,Tryz.results32,ag_53,sz_53,q2]
 intro v1 q5
 refine .seqK (.sR fun e h=>?_)
 simp only [seval,EMT,und_9,q5]
 refine mU e (.condF rfl (.exit fun e h=>?_)) h
 cases h
 simp only [seval,FMT,Tryz.results32,ag_53,sz_53]
 intro v3
 refine Mir.toK (.seqK (.sR fun e h=>?_))
 simp only [seval,EMT]
 refine mU e (Mir.joinO (fun v4 : (List UInt8)=>([.d (.str a0),U,.ptr 0 0,U,.d (.int .i64 y1),.d (.str v4)] ++ us 58)) (fun v4=>⟨[[.d (.bool false),.nil,.d (.bool false),.nil]],[]⟩) (fun _=>rfl) ?_ ?_) h
 refine .cond rfl (fun h5=>?_) (fun h5=>?_)
 refine .region fun e h=>?_
 simp only [seval,EMT]
 cases h
 simp only [seval,FMT,Tryz.results32,ag_53,sz_53]
 refine .skip fun e h=>?_
 cases h
 simp only [seval,FMT,Tryz.results32,ag_53,sz_53]
 intro v4
 refine Mir.toK (.seqK (.seqK (.bind fun c2 q6=>?_)))
 replace q6 := gt_ok q6
 simp only [Int.reduceToNat,Int.reduceLT,Nat.sub_zero,dp0] at q6
 refine .region fun e h=>?_
 simp only [seval,EMT,und_9,q6]
 refine mU e (Mir.joinO (fun v5 : (List UInt8)=>([U,U,.ptr 0 0,U,.d (.int .i64 y1),.d (.str v5)] ++ us 58)) (fun v5=>⟨[[.d (.bool false),.nil,.d (.bool false),.nil]],[]⟩) (fun _=>rfl) ?_ ?_) h
 refine .cond rfl (fun h6=>?_) (fun h6=>?_)
 refine .guard fun q7=>?_
 replace q7 := okStr_ok q7
 try simp only [lm,xNA,xCA,xAN,xLC,xLN,xAC,xAL,nA,Nat.zero_add] at q7
 refine .region fun e h=>?_
 simp only [seval,EMT,q7]
 cases h
 simp only [seval,FMT,Tryz.results32,ag_53,sz_53]
 refine .skip fun e h=>?_
 cases h
 simp only [seval,FMT,Tryz.results32,ag_53,sz_53]
 intro v5
 refine Mir.toK (.seqK (.bind fun y2 h7=>.region fun e h=>?_))
 simp only [seval,EMT]
 refine SpecS.by (r01_Parse_spec h7) (by simp only [seval,FMT]) ?_
 simp only [seval,EMT,zero_51,sz_51]
 refine mU e (.seqK (.bind fun y3 h8=>.bind fun y4 h9=>.bind fun y5 h10=>.region fun e h=>?_)) h
 simp only [seval,EMT,ag_51,sz_51]
 refine SpecS.by (r02_FromInt_spec h8) (by simp only [seval,FMT]) ?_
 simp only [seval,EMT]
 refine SpecS.by (r06_Power_spec h9) (by simp only [seval,FMT]) ?_
 simp only [seval,EMT]
 refine SpecS.by (r02_Over_spec h10) (by simp only [seval,FMT]) ?_
 simp only [seval,EMT,sz_53]
 refine mU e (.ret fun e h=>?_) h
 cases h
 simp only [seval,FMT,Tryz.results32,ag_53,sz_53]
end Go.Proofs.YtpdjgamdnjfmkaaGreatDoor
