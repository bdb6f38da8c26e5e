import Derived.Test.YtpdjgamdnjfmkaaDoorGx
import Derived.Test.YtpdjgamdnjfmkaaDoorTy
import Derived.Test.YtpdjgamdnjfmkaaDoorLb
import Derived.Test.YtpdjgamdnjfmkaaDoorMI
import Derived.Test.YtpdjgamdnjfmkaaDoorMQ
import Derived.Test.YtpdjgamdnjfmkaaDoorMB
namespace Go.Proofs.YtpdjgamdnjfmkaaDoor
open Go.RowKit
open Nat renaming reduceAdd → nA, reduceSub → nS, reduceMul → nM, reduceEqDiff → nE, reduceLeDiff → nL, reduceLT → nT, reduceBEq → nB
open Int renaming reduceLT → iT, reduceToNat → iN, reduceEq → iE
set_option linter.unusedVariables false
set_option linter.unusedSimpArgs false
set_option maxRecDepth 100000
set_option maxHeartbeats 8000000
theorem EMT : type_of% (@SE) := @SE
theorem FMT : type_of% (@SF) := @SF
def stringslite_HasPrefix (a0 : (List UInt8)) (a1 : (List UInt8)) : Option Bool := bindO (if (decide ((a0.length : Int) ≥ (a1.length : Int))) = true then bindO (cutT a0 (a1.length : Int)) fun (s1 : (List UInt8)) => some (s1 == a1) else some false) fun (v1 : Bool) => some v1
theorem stringslite_HasPrefix_spec {a0 : (List UInt8)} {a1 : (List UInt8)} {y : Bool} (h : stringslite_HasPrefix a0 a1 = some y) : Spec gP 76 [.d (.str a0), .d (.str a1)] (.d (.bool y)) := by
 refine spec_mir Tryd.func76 rfl (by kernel_rfl) (by kernel_rfl) (fun y : Bool => .d (.bool y)) ?_ h
 unfold stringslite_HasPrefix
 simp only [List.replicate, List.length, nS, nA, Tryd.ntmps76, SV]
 refine .sR fun e h=>?_
 simp only [seval,EMT]
 refine mU e (.seqK (Mir.joinO (fun v1 : Bool=>([U,U,U,U,.d (.bool v1)] ++ us 13)) (fun v1=>⟨[],[]⟩) (fun _=>rfl) ?_ ?_)) h
 refine .ite (fun hb1=>?_) (fun hb1=>?_)
 refine .bind fun s1 q2=>?_
 replace q2 := cutT_ok q2
 refine .region fun e h=>?_
 simp only [seval,EMT,und_9,q2,Nat.le_refl,and_true,true_and,dm,tm,hb1]
 cases h
 simp only [seval,FMT,hb1]
 refine .region fun e h=>?_
 simp only [seval,EMT,und_9,hb1]
 cases h
 simp only [seval,FMT,hb1]
 intro v1
 refine Mir.toK (.ret fun e h=>?_)
 cases h
 simp only [seval,FMT,Tryd.results76]
def stringslite_CutPrefix (a0 : (List UInt8)) (a1 : (List UInt8)) : Option ((List UInt8) × Bool) := bindO (stringslite_HasPrefix a0 a1) fun (y1 : Bool) => if (!y1) = true then some (a0, false) else bindO (cutF a0 (a1.length : Int)) fun (s1 : (List UInt8)) => some (s1, true)
theorem stringslite_CutPrefix_spec {a0 : (List UInt8)} {a1 : (List UInt8)} {y : (List UInt8) × Bool} (h : stringslite_CutPrefix a0 a1 = some y) : Spec gP 65 [.d (.str a0), .d (.str a1)] (.tuple [.d (.str y.1), .d (.bool y.2)]) := by
 refine spec_mir Tryd.func65 rfl (by kernel_rfl) (by kernel_rfl) (fun y : (List UInt8) × Bool => .tuple [.d (.str y.1), .d (.bool y.2)]) ?_ h
 unfold stringslite_CutPrefix
 simp only [List.replicate, List.length, nS, nA, Tryd.ntmps65, SV]
 refine .sR fun e h=>?_
 simp only [seval,EMT]
 refine mU e (.seqK (.seqK (.bind fun y1 hy1=>.region fun e h=>?_))) h
 simp only [seval,EMT]
 refine SpecS.by (stringslite_HasPrefix_spec hy1) (by simp only [seval,FMT]) ?_
 simp only [seval,EMT]
 refine mU e (.cond rfl (fun hb3=>?_) (fun hb3=>?_)) h
 refine .sR fun e h=>?_
 simp only [seval,EMT]
 refine mU e (.ret fun e h=>?_) h
 cases h
 simp only [seval,FMT,Tryd.results65]
 refine .skip (Mir.toK (.seqK (.bind fun s1 q4=>?_)))
 replace q4 := cutF_ok q4
 refine .region fun e h=>?_
 simp only [seval,EMT,und_9,q4,Nat.le_refl,and_true,true_and,dm,tm]
 refine mU e (.ret fun e h=>?_) h
 cases h
 simp only [seval,FMT,Tryd.results65]
def strings_CutPrefix (a0 : (List UInt8)) (a1 : (List UInt8)) : Option ((List UInt8) × Bool) := bindO (stringslite_CutPrefix a0 a1) fun (y1 : (List UInt8) × Bool) => some (y1.1, y1.2)
theorem strings_CutPrefix_spec {a0 : (List UInt8)} {a1 : (List UInt8)} {y : (List UInt8) × Bool} (h : strings_CutPrefix a0 a1 = some y) : Spec gP 49 [.d (.str a0), .d (.str a1)] (.tuple [.d (.str y.1), .d (.bool y.2)]) := by
 refine spec_mir Tryd.func49 rfl (by kernel_rfl) (by kernel_rfl) (fun y : (List UInt8) × Bool => .tuple [.d (.str y.1), .d (.bool y.2)]) ?_ h
 unfold strings_CutPrefix
 simp only [List.replicate, List.length, nS, nA, Tryd.ntmps49, SV]
 refine .sR fun e h=>?_
 simp only [seval,EMT]
 refine mU e (.seqK (.bind fun y1 hy1=>.region fun e h=>?_)) h
 simp only [seval,EMT]
 refine SpecS.by (stringslite_CutPrefix_spec hy1) (by simp only [seval,FMT]) ?_
 simp only [seval,EMT]
 refine mU e (.ret fun e h=>?_) h
 cases h
 simp only [seval,FMT,Tryd.results49]
def stringslite_Index (a0 : (List UInt8)) (a1 : (List UInt8)) : Option Int := if (((a1.length : Int) == 0) || (a1 == a0)) = true then some 0 else if ((a1.length : Int) == 1) = true then bindO (gt a1 0) fun (c1 : UInt8) => bindO (stringslite_IndexByte a0 (c1.toNat : Int)) fun (y1 : Int) => some y1 else if (decide ((a1.length : Int) ≥ (a0.length : Int))) = true then some (-1) else none
theorem stringslite_Index_spec {a0 : (List UInt8)} {a1 : (List UInt8)} {y : Int} (h : stringslite_Index a0 a1 = some y) : Spec gP 77 [.d (.str a0), .d (.str a1)] (.d (.int .i64 y)) := by
 refine spec_mir Tryd.func77 rfl (by kernel_rfl) (by kernel_rfl) (fun y : Int => .d (.int .i64 y)) ?_ h
 unfold stringslite_Index
 simp only [List.replicate, List.length, nS, nA, Tryd.ntmps77, SV]
 refine .sR fun e h=>?_
 simp only [seval,EMT]
 refine mU e (.sR fun e h=>?_) h
 simp only [seval,EMT,und_9]
 refine mU e (.seqK (.block (.seqK (.joinV ([.d (.str a0),.d (.str a1),U,U,U,.d (.int .i64 (a1.length : Int)),U,U,U,U,U,U,U,U,U,U,.d (.bool (((a1.length : Int) == 0) || (a1 == a0)))] ++ us 126) ⟨[],[]⟩ rfl ?_ ?_)))) h
 refine SWs.region ?_
 rcases Bool.eq_false_or_eq_true ((a1.length : Int) == 0) with hb7 | hb7
 simp only [seval,EMT,SL,PB,hb7]
 simp only [seval,EMT,SL,PB,hb7]
 refine Mir.toK (.cond rfl (fun hb13=>?_) (fun hb13=>?_))
 refine .sR fun e h=>?_
 simp only [seval,EMT]
 refine mU e (.ret fun e h=>?_) h
 cases h
 simp only [seval,FMT,Tryd.results77]
 refine .sR fun e h=>?_
 simp only [seval,EMT]
 refine mU e (.cond rfl (fun hb18=>?_) (fun hb18=>?_)) h
 refine .seqK (.bind fun c1 q19=>?_)
 replace q19 := gt_ok q19
 simp only [Int.reduceToNat,Int.reduceLT,Nat.sub_zero,dp0] at q19
 refine .bind fun y1 hy20=>.region fun e h=>?_
 simp only [seval,EMT,und_9,q19]
 refine SpecS.by (stringslite_IndexByte_spec hy20) (by simp only [seval,FMT]) ?_
 simp only [seval,EMT]
 refine mU e (.ret fun e h=>?_) h
 cases h
 simp only [seval,FMT,Tryd.results77]
 refine .sR fun e h=>?_
 simp only [seval,EMT,und_9]
 refine mU e (.cond rfl (fun hb22=>?_) (fun hb22=>?_)) h
 refine .sR fun e h=>?_
 simp only [seval,EMT]
 refine mU e (.ret fun e h=>?_) h
 cases h
 simp only [seval,FMT,Tryd.results77]
 exact Mir.no
def stringslite_Cut (a0 : (List UInt8)) (a1 : (List UInt8)) : Option ((List UInt8) × (List UInt8) × Bool) := bindO (stringslite_Index a0 a1) fun (y1 : Int) => if (decide (y1 ≥ 0)) = true then bindO (cutT a0 y1) fun (s1 : (List UInt8)) => bindO (cutF a0 (IntKind.i64.wrap (y1 + (a1.length : Int)))) fun (s2 : (List UInt8)) => some (s1, s2, true) else some (a0, [], false)
theorem stringslite_Cut_spec {a0 : (List UInt8)} {a1 : (List UInt8)} {y : (List UInt8) × (List UInt8) × Bool} (h : stringslite_Cut a0 a1 = some y) : Spec gP 66 [.d (.str a0), .d (.str a1)] (.tuple [.d (.str y.1), .d (.str y.2.1), .d (.bool y.2.2)]) := by
 refine spec_mir Tryd.func66 rfl (by kernel_rfl) (by kernel_rfl) (fun y : (List UInt8) × (List UInt8) × Bool => .tuple [.d (.str y.1), .d (.str y.2.1), .d (.bool y.2.2)]) ?_ h
 unfold stringslite_Cut
 simp only [List.replicate, List.length, nS, nA, Tryd.ntmps66, SV]
 refine .sR fun e h=>?_
 simp only [seval,EMT]
 refine mU e (.seqK (.seqK (.bind fun y1 hy1=>.region fun e h=>?_))) h
 simp only [seval,EMT]
 refine SpecS.by (stringslite_Index_spec hy1) (by simp only [seval,FMT]) ?_
 simp only [seval,EMT]
 refine mU e (.sR fun e h=>?_) h
 simp only [seval,EMT]
 refine mU e (.cond rfl (fun hb5=>?_) (fun hb5=>?_)) h
 refine .seqK (.bind fun s1 q6=>?_)
 replace q6 := cutT_ok q6
 refine .bind fun s2 q7=>?_
 replace q7 := cutF_ok q7
 refine .regionD [] (by kernel_rfl) fun e h=>?_
 simp only [seval,EMT,SB,und_9,q6,Nat.le_refl,and_true,true_and,dm,tm,q7]
 refine mU e (.ret fun e h=>?_) h
 cases h
 simp only [seval,FMT,Tryd.results66]
 refine .skip (Mir.toK (.sR fun e h=>?_))
 simp only [seval,EMT]
 refine mU e (.ret fun e h=>?_) h
 cases h
 simp only [seval,FMT,Tryd.results66]
def strings_Cut (a0 : (List UInt8)) (a1 : (List UInt8)) : Option ((List UInt8) × (List UInt8) × Bool) := bindO (stringslite_Cut a0 a1) fun (y1 : (List UInt8) × (List UInt8) × Bool) => some (y1.1, y1.2.1, y1.2.2)
theorem strings_Cut_spec {a0 : (List UInt8)} {a1 : (List UInt8)} {y : (List UInt8) × (List UInt8) × Bool} (h : strings_Cut a0 a1 = some y) : Spec gP 50 [.d (.str a0), .d (.str a1)] (.tuple [.d (.str y.1), .d (.str y.2.1), .d (.bool y.2.2)]) := by
 refine spec_mir Tryd.func50 rfl (by kernel_rfl) (by kernel_rfl) (fun y : (List UInt8) × (List UInt8) × Bool => .tuple [.d (.str y.1), .d (.str y.2.1), .d (.bool y.2.2)]) ?_ h
 unfold strings_Cut
 simp only [List.replicate, List.length, nS, nA, Tryd.ntmps50, SV]
 refine .sR fun e h=>?_
 simp only [seval,EMT]
 refine mU e (.seqK (.bind fun y1 hy1=>.region fun e h=>?_)) h
 simp only [seval,EMT]
 refine SpecS.by (stringslite_Cut_spec hy1) (by simp only [seval,FMT]) ?_
 simp only [seval,EMT]
 refine mU e (.ret fun e h=>?_) h
 cases h
 simp only [seval,FMT,Tryd.results50]
def dc_plain (a0 : (List UInt8)) : Option Bool := bindO (if (a0 == []) = true then some false else bindO (strings_Trim a0 [48, 49, 50, 51, 52, 53, 54, 55, 56, 57]) fun (y1 : (List UInt8)) => some (y1 == [])) fun (v1 : Bool) => some v1
theorem dc_plain_spec {a0 : (List UInt8)} {y : Bool} (h : dc_plain a0 = some y) : Spec gP 51 [.d (.str a0)] (.d (.bool y)) := by
 refine spec_mir Tryd.func51 rfl (by kernel_rfl) (by kernel_rfl) (fun y : Bool => .d (.bool y)) ?_ h
 unfold dc_plain
 simp only [List.replicate, List.length, nS, nA, Tryd.ntmps51, SV]
 refine .sR fun e h=>?_
 simp only [seval,EMT]
 refine mU e (.seqK (Mir.joinO (fun v1 : Bool=>([U,U,.d (.bool v1)] ++ us 7)) (fun v1=>⟨[],[]⟩) (fun _=>rfl) ?_ ?_)) h
 refine .ite (fun hb1=>?_) (fun hb1=>?_)
 refine .region fun e h=>?_
 simp only [seval,EMT,hb1]
 cases h
 simp only [seval,FMT,hb1]
 refine .bind fun y1 hy2=>.region fun e h=>?_
 simp only [seval,EMT,hb1]
 refine SpecS.by (strings_Trim_spec hy2) (by simp only [seval,FMT,hb1]) ?_
 simp only [seval,EMT,hb1]
 cases h
 simp only [seval,FMT,hb1]
 intro v1
 refine Mir.toK (.ret fun e h=>?_)
 cases h
 simp only [seval,FMT,Tryd.results51]
def dc_digits (a0 : (List UInt8)) : Option ((List UInt8) × Int × Bool) := if (decide ((a0.length : Int) > 65536)) = true then some ([], 0, false) else bindO (strings_CutPrefix a0 [45]) fun (y1 : (List UInt8) × Bool) => bindO (strings_Cut y1.1 [46]) fun (y2 : (List UInt8) × (List UInt8) × Bool) => bindO (bindO (dc_plain y2.1) fun (y3 : Bool) => if y3 = true then if (decide ((y2.1.length : Int) > 1)) = true then bindO (gt y2.1 0) fun (c1 : UInt8) => if ((c1.toNat : Int) == 48) = true then some true else if y2.2.2 = true then bindO (dc_plain y2.2.1) fun (y4 : Bool) => if y4 = true then some (decide ((y2.2.1.length : Int) > 30)) else some true else some false else if y2.2.2 = true then bindO (dc_plain y2.2.1) fun (y5 : Bool) => if y5 = true then some (decide ((y2.2.1.length : Int) > 30)) else some true else some false else some true) fun (v1 : Bool) => if v1 = true then some ([], 0, false) else guardO (okStr y2.1 y2.2.1) ( bindO (strings_TrimLeft (y2.1 ++ y2.2.1) [48]) fun (y6 : (List UInt8)) => if (y6 == []) = true then some ([48], (y2.2.1.length : Int), !y1.2) else bindO (if y1.2 = true then guardO (okStr [45] y6) ( some ([45] ++ y6)) else some y6) fun (v2 : (List UInt8)) => some (v2, (y2.2.1.length : Int), true))
theorem dc_digits_spec {a0 : (List UInt8)} {y : (List UInt8) × Int × Bool} (h : dc_digits a0 = some y) : Spec gP 35 [.d (.str a0)] (.tuple [.d (.str y.1), .d (.int .i64 y.2.1), .d (.bool y.2.2)]) := by
 refine spec_mir Tryd.func35 rfl (by kernel_rfl) (by kernel_rfl) (fun y : (List UInt8) × Int × Bool => .tuple [.d (.str y.1), .d (.int .i64 y.2.1), .d (.bool y.2.2)]) ?_ h
 unfold dc_digits
 simp only [List.replicate, List.length, nS, nA, Tryd.ntmps35, SV]
 refine .sR fun e h=>?_
 simp only [seval,EMT]
 refine mU e (.seqK (.sR fun e h=>?_)) h
 simp only [seval,EMT,und_9]
 refine mU e (.cond rfl (fun hb2=>?_) (fun hb2=>?_)) h
 refine .sR fun e h=>?_
 simp only [seval,EMT]
 refine mU e (.ret fun e h=>?_) h
 cases h
 simp only [seval,FMT,Tryd.results35]
 refine .skip (Mir.toK (.seqK (.bind fun y1 hy3=>.region fun e h=>?_)))
 simp only [seval,EMT]
 refine SpecS.by (strings_CutPrefix_spec hy3) (by simp only [seval,FMT]) ?_
 simp only [seval,EMT]
 refine mU e (.seqK (.bind fun y2 hy4=>.region fun e h=>?_)) h
 simp only [seval,EMT]
 refine SpecS.by (strings_Cut_spec hy4) (by simp only [seval,FMT]) ?_
 simp only [seval,EMT]
 refine mU e (.seqK (.seqK (Mir.joinO (fun v1 : Bool=>([U,U,U,U,U,U,.d (.bool y1.2),.d (.str y2.1),.d (.str y2.2.1),U,U,U,U,U,U,U,U,U,U,U,U,U,U,U,U,U,U,U,U,U,U,U,U,U,U,U,U,U,U,U,U,U,U,U,U,U,U,U,U,U,.d (.bool v1)] ++ us 16)) (fun v1=>⟨[],[]⟩) (fun _=>rfl) ?_ ?_))) h
 refine .bind fun y3 hy5=>.ite (fun hb6=>?_) (fun hb6=>?_)
 refine .ite (fun hb7=>?_) (fun hb7=>?_)
 refine .bind fun c1 q8=>?_
 replace q8 := gt_ok q8
 simp only [Int.reduceToNat,Int.reduceLT,Nat.sub_zero,dp0] at q8
 refine .ite (fun hb9=>?_) (fun hb9=>?_)
 refine .region fun e h=>?_
 simp only [seval,EMT,hb6,hb7,hb9]
 refine SpecS.by (dc_plain_spec hy5) (by simp only [seval,FMT,hb6,hb7,hb9]) ?_
 simp only [seval,EMT,und_9,q8,hb6,hb7,hb9]
 cases h
 simp only [seval,FMT,hb6,hb7,hb9]
 refine .ite (fun hb10=>?_) (fun hb10=>?_)
 refine .bind fun y4 hy11=>.ite (fun hb12=>?_) (fun hb12=>?_)
 refine .region fun e h=>?_
 simp only [seval,EMT,hb6,hb7,hb9,hb10,hb12]
 refine SpecS.by (dc_plain_spec hy5) (by simp only [seval,FMT,hb6,hb7,hb9,hb10,hb12]) ?_
 simp only [seval,EMT,und_9,q8,hb6,hb7,hb9,hb10,hb12]
 refine SpecS.by (dc_plain_spec hy11) (by simp only [seval,FMT,hb6,hb7,hb9,hb10,hb12]) ?_
 simp only [seval,EMT,und_9,hb6,hb7,hb9,hb10,hb12]
 cases h
 simp only [seval,FMT,hb6,hb7,hb9,hb10,hb12]
 refine .region fun e h=>?_
 simp only [seval,EMT,hb6,hb7,hb9,hb10,hb12]
 refine SpecS.by (dc_plain_spec hy5) (by simp only [seval,FMT,hb6,hb7,hb9,hb10,hb12]) ?_
 simp only [seval,EMT,und_9,q8,hb6,hb7,hb9,hb10,hb12]
 refine SpecS.by (dc_plain_spec hy11) (by simp only [seval,FMT,hb6,hb7,hb9,hb10,hb12]) ?_
 simp only [seval,EMT,hb6,hb7,hb9,hb10,hb12]
 cases h
 simp only [seval,FMT,hb6,hb7,hb9,hb10,hb12]
 refine .region fun e h=>?_
 simp only [seval,EMT,hb6,hb7,hb9,hb10]
 refine SpecS.by (dc_plain_spec hy5) (by simp only [seval,FMT,hb6,hb7,hb9,hb10]) ?_
 simp only [seval,EMT,und_9,q8,hb6,hb7,hb9,hb10]
 cases h
 simp only [seval,FMT,hb6,hb7,hb9,hb10]
 refine .ite (fun hb13=>?_) (fun hb13=>?_)
 refine .bind fun y5 hy14=>.ite (fun hb15=>?_) (fun hb15=>?_)
 refine .region fun e h=>?_
 simp only [seval,EMT,hb6,hb7,hb13,hb15]
 refine SpecS.by (dc_plain_spec hy5) (by simp only [seval,FMT,hb6,hb7,hb13,hb15]) ?_
 simp only [seval,EMT,und_9,hb6,hb7,hb13,hb15]
 refine SpecS.by (dc_plain_spec hy14) (by simp only [seval,FMT,hb6,hb7,hb13,hb15]) ?_
 simp only [seval,EMT,und_9,hb6,hb7,hb13,hb15]
 cases h
 simp only [seval,FMT,hb6,hb7,hb13,hb15]
 refine .region fun e h=>?_
 simp only [seval,EMT,hb6,hb7,hb13,hb15]
 refine SpecS.by (dc_plain_spec hy5) (by simp only [seval,FMT,hb6,hb7,hb13,hb15]) ?_
 simp only [seval,EMT,und_9,hb6,hb7,hb13,hb15]
 refine SpecS.by (dc_plain_spec hy14) (by simp only [seval,FMT,hb6,hb7,hb13,hb15]) ?_
 simp only [seval,EMT,hb6,hb7,hb13,hb15]
 cases h
 simp only [seval,FMT,hb6,hb7,hb13,hb15]
 refine .region fun e h=>?_
 simp only [seval,EMT,hb6,hb7,hb13]
 refine SpecS.by (dc_plain_spec hy5) (by simp only [seval,FMT,hb6,hb7,hb13]) ?_
 simp only [seval,EMT,und_9,hb6,hb7,hb13]
 cases h
 simp only [seval,FMT,hb6,hb7,hb13]
 refine .region fun e h=>?_
 simp only [seval,EMT,hb6]
 refine SpecS.by (dc_plain_spec hy5) (by simp only [seval,FMT,hb6]) ?_
 simp only [seval,EMT,hb6]
 cases h
 simp only [seval,FMT,hb6]
 intro v1
 refine Mir.toK (.cond rfl (fun hb17=>?_) (fun hb17=>?_))
 refine .sR fun e h=>?_
 simp only [seval,EMT]
 refine mU e (.ret fun e h=>?_) h
 cases h
 simp only [seval,FMT,Tryd.results35]
 refine .skip (Mir.toK (.seqK (.guard fun q18=>?_)))
 replace q18 := okStr_ok q18
 refine .bind fun y6 hy19=>.region fun e h=>?_
 simp only [seval,EMT,q18]
 refine SpecS.by (strings_TrimLeft_spec hy19) (by simp only [seval,FMT]) ?_
 simp only [seval,EMT]
 refine mU e (.seqK (.sR fun e h=>?_)) h
 simp only [seval,EMT]
 refine mU e (.cond rfl (fun hb21=>?_) (fun hb21=>?_)) h
 refine .sR fun e h=>?_
 simp only [seval,EMT,und_9]
 refine mU e (.ret fun e h=>?_) h
 cases h
 simp only [seval,FMT,Tryd.results35]
 refine .skip (Mir.toK (.seqK (.sR fun e h=>?_)))
 simp only [seval,EMT]
 refine mU e (Mir.joinO (fun v2 : (List UInt8)=>([U,U,U,U,U,U,U,U,.d (.str y2.2.1),U,.d (.str v2)] ++ us 56)) (fun v2=>⟨[],[]⟩) (fun _=>rfl) ?_ ?_) h
 refine .cond rfl (fun hb24=>?_) (fun hb24=>?_)
 refine .guard fun q25=>?_
 replace q25 := okStr_ok q25
 try simp only [lm,xNA,xCA,xAN,xLC,xLN,xAC,xAL,nA,Nat.zero_add] at q25
 refine .region fun e h=>?_
 simp only [seval,EMT,q25]
 cases h
 simp only [seval,FMT,Tryd.results35]
 refine .skip fun e h=>?_
 cases h
 simp only [seval,FMT,Tryd.results35]
 intro v2
 refine Mir.toK (.sR fun e h=>?_)
 simp only [seval,EMT,und_9]
 refine mU e (.ret fun e h=>?_) h
 cases h
 simp only [seval,FMT,Tryd.results35]
def it_Parse (a0 : (List UInt8)) : Option (ApiInt × Int) := bindO (strings_CutPrefix a0 [45]) fun (y1 : (List UInt8) × Bool) => bindO (if (y1.1 == []) = true then some true else if (decide ((a0.length : Int) > 65536)) = true then some true else bindO (gt y1.1 0) fun (c1 : UInt8) => if ((c1.toNat : Int) == 48) = true then if (decide ((y1.1.length : Int) > 1)) = true then some true else some y1.2 else some false) fun (v1 : Bool) => if v1 = true then some (ApiInt.mk false [], 2) else bindX (guardO (okIdx y1.1) ( rangeX (fun (i1 : Nat) (c2 : UInt8) (v2 : Unit) => if ((decide ((c2.toNat : Int) < 48)) || (decide ((c2.toNat : Int) > 57))) = true then some (.ret (.ret (ApiInt.mk false [], 2))) else some (.go ())) (fun (v2 : Unit) => some (.go ())) y1.1 0 ())) fun (v3 : Unit) => bindO (loopX (fun (v4 : (List Int) × Int) => if (decide (v4.2 > 0)) = true then bindO (bindO (cutL y1.1 (mmI true 0 (IntKind.i64.wrap (v4.2 - 9))) v4.2) fun (s1 : (List UInt8)) => bindO (guardO (okIdx (bytesI s1)) ( rangeX (fun (i2 : Nat) (e1 : Int) (v5 : Int) => some (.go (IntKind.u32.wrap ((IntKind.u32.wrap (10 * v5)) + (IntKind.u32.wrap (IntKind.u8.wrap (e1 - 48))))))) (fun (v5 : Int) => some v5) (bytesI s1) 0 0)) fun (v6 : Int) => guardO (okLen (v4.1.length + 1)) ( some (v4.1 ++ [v6]))) fun (v7 : (List Int)) => some (.go (v7, IntKind.i64.wrap (v4.2 - 9))) else some (.ret v4.1)) fuel ([], (y1.1.length : Int))) fun (v8 : (List Int)) => bindO (it_signed y1.2 v8) fun (y2 : ApiInt) => some (y2, 0)
theorem it_Parse_spec {a0 : (List UInt8)} {y : ApiInt × Int} (h : it_Parse a0 = some y) : Spec gP 36 [.d (.str a0)] (.tuple [.agg [.d (.bool y.1.Neg), .d (.list (List.map (eInt .u32) y.1.Limbs))], .d (.int .i64 y.2)]) := by
 refine spec_mir Tryd.func36 rfl (by kernel_rfl) (by kernel_rfl) (fun y : ApiInt × Int => .tuple [.agg [.d (.bool y.1.Neg), .d (.list (List.map (eInt .u32) y.1.Limbs))], .d (.int .i64 y.2)]) ?_ h
 unfold it_Parse
 simp only [List.replicate, List.length, nS, nA, Tryd.ntmps36, SV]
 refine .sR fun e h=>?_
 simp only [seval,EMT,zero_36,eInt]
 refine mU e (.seqK (.bind fun y1 hy1=>.region fun e h=>?_)) h
 simp only [seval,EMT,eInt]
 refine SpecS.by (strings_CutPrefix_spec hy1) (by simp only [seval,FMT,eInt]) ?_
 simp only [seval,EMT,eInt]
 refine mU e (.seqK (.seqK (Mir.joinO (fun v1 : Bool=>([U,U,.ptr 0 0,U,.d (.str y1.1),.d (.bool y1.2),U,U,U,U,U,U,U,U,U,U,U,U,U,U,U,U,U,U,U,U,U,U,U,U,U,U,U,U,U,U,.d (.bool v1)] ++ us 50)) (fun v1=>⟨[[.d (.bool false),.nil]],[]⟩) (fun _=>rfl) ?_ ?_))) h
 refine .ite (fun hb2=>?_) (fun hb2=>?_)
 refine .region fun e h=>?_
 simp only [seval,EMT,hb2]
 cases h
 simp only [seval,FMT,hb2]
 refine .ite (fun hb3=>?_) (fun hb3=>?_)
 refine .region fun e h=>?_
 simp only [seval,EMT,und_9,hb2,hb3]
 cases h
 simp only [seval,FMT,hb2,hb3]
 refine .bind fun c1 q4=>?_
 replace q4 := gt_ok q4
 simp only [Int.reduceToNat,Int.reduceLT,Nat.sub_zero,dp0] at q4
 refine .ite (fun hb5=>?_) (fun hb5=>?_)
 refine .ite (fun hb6=>?_) (fun hb6=>?_)
 refine .region fun e h=>?_
 simp only [seval,EMT,und_9,q4,hb2,hb3,hb5,hb6]
 cases h
 simp only [seval,FMT,hb2,hb3,hb5,hb6]
 refine .region fun e h=>?_
 simp only [seval,EMT,und_9,q4,hb2,hb3,hb5,hb6]
 cases h
 simp only [seval,FMT,hb2,hb3,hb5,hb6]
 refine .region fun e h=>?_
 simp only [seval,EMT,und_9,q4,hb2,hb3,hb5]
 cases h
 simp only [seval,FMT,hb2,hb3,hb5]
 intro v1
 refine Mir.toK (.cond rfl (fun hb8=>?_) (fun hb8=>?_))
 refine .sR fun e h=>?_
 simp only [seval,EMT,zero_36,pl_36,sz_36]
 refine mU e (.ret fun e h=>?_) h
 cases h
 simp only [seval,FMT,Tryd.results36,ag_36,sz_36]
 refine .skip (Mir.toK (.seqK (.sR fun e h=>?_)))
 simp only [seval,EMT,und_9,eInt]
 refine mU e (Mir.join (fun v3 : Unit=>([U,U,.ptr 0 0,U,.d (.str y1.1),.d (.bool y1.2)] ++ us 81)) (fun v3=>⟨[[.d (.bool false),.nil]],[]⟩) (fun _=>rfl) ?_ ?_) h
 refine .block (.guard fun qg73=>Mir.range (fun (i1 : Nat) (v2 : Unit)=>([U,U,.ptr 0 0,U,.d (.str y1.1),.d (.bool y1.2),U,U,U,U,U,U,U,U,U,U,U,U,U,U,U,U,U,U,U,U,U,U,U,U,U,U,U,U,U,U,U,U,U,.d (.int .i64 (y1.1.length : Int)),.d (.int .i64 (i1 : Int))] ++ us 46)) (fun i1 v2=>⟨[[.d (.bool false),.nil]],[]⟩) qg73 (fun _ _=>rfl) (by simp only [seval,FMT,zNI]) (by simp only [seval,FMT,zNI]) ?_ ?_)
 intro i1 c2 v2 qr71
 refine .sR fun e h=>?_
 simp only [seval,EMT,qr71]
 refine mU e (.seqK (.condT rfl (.skip (Mir.toK (.seqK (.block (.sR fun e h=>?_))))))) h
 simp only [seval,EMT]
 refine mU e (.seqK (.joinV ([U,U,.ptr 0 0,U,.d (.str y1.1),.d (.bool y1.2),U,U,U,U,U,U,U,U,U,U,U,U,U,U,U,U,U,U,U,U,U,U,U,U,U,U,U,U,U,U,U,U,U,.d (.int .i64 (y1.1.length : Int)),.d (.int .i64 (i1 : Int)),U,U,U,U,U,U,U,U,U,U,U,.d (.bool ((decide ((c2.toNat : Int) < 48)) || (decide ((c2.toNat : Int) > 57))))] ++ us 34) ⟨[[.d (.bool false),.nil]],[]⟩ rfl ?_ ?_)) h
 refine SWs.region ?_
 rcases Bool.eq_false_or_eq_true (decide ((c2.toNat : Int) < 48)) with hb76 | hb76
 simp only [seval,EMT,SL,PB,und_9,Int.toNat_natCast,qr71,hb76]
 simp only [seval,EMT,SL,PB,und_9,Int.toNat_natCast,qr71,hb76]
 refine Mir.toK (.cond rfl (fun hb78=>?_) (fun hb78=>?_))
 refine .sR fun e h=>?_
 simp only [seval,EMT,zero_36,pl_36,sz_36]
 refine mU e (.ret fun e h=>?_) h
 cases h
 simp only [seval,FMT,Tryd.results36,ag_36,sz_36]
 refine .skip (Mir.toB (Mir.toK (.region fun e h=>?_)))
 simp only [seval,EMT]
 cases h
 simp only [seval,FMT,Tryd.results36,ag_36,sz_36,qr71]
 intro v2 qd72
 refine .sR fun e h=>?_
 simp only [seval,EMT,qd72]
 refine mU e (.seqK (.condF rfl (.exit fun e h=>?_))) h
 cases h
 simp only [seval,FMT,Tryd.results36,ag_36,sz_36]
 intro v3
 refine Mir.toK (.sR fun e h=>?_)
 simp only [seval,EMT,eInt]
 refine mU e (.seqK (.sR fun e h=>?_)) h
 simp only [seval,EMT,und_9,eInt]
 refine mU e (.gh [.slot 7 86] rfl (Mir.joinO (fun v8 : (List Int)=>([U,U,.ptr 0 0,U,U,.d (.bool y1.2),U,.own 0 (List.map (eInt .u32) v8)] ++ us 79)) (fun v8=>⟨[[.d (.bool false),.nil]],[(86,v8.length)]⟩) (fun _=>rfl) ?_ ?_)) h
 refine .block (Mir.loop (fun v4 : (List Int) × Int=>([U,U,.ptr 0 0,U,.d (.str y1.1),.d (.bool y1.2),U,.own 0 (List.map (eInt .u32) v4.1),.d (.int .i64 v4.2)] ++ us 78)) (fun v4=>⟨[[.d (.bool false),.nil]],[(86,v4.1.length)]⟩) (fun _=>rfl) (by simp only [seval,FMT,eInt]) (by simp only [seval,FMT,eInt]) fun v4=>.seqK (.sR fun e h=>?_))
 simp only [seval,EMT,eInt]
 refine mU e (.cond rfl (fun h1=>?_) (fun h1=>?_)) h
 refine .skip (Mir.toK (.seqK (Mir.joinO (fun v7 : (List Int)=>([U,U,.ptr 0 0,U,.d (.str y1.1),.d (.bool y1.2),U,.own 0 (List.map (eInt .u32) v7),.d (.int .i64 v4.2)] ++ us 78)) (fun v7=>⟨[[.d (.bool false),.nil]],[(86,v7.length)]⟩) (fun _=>rfl) ?_ ?_)))
 refine .block (.sR fun e h=>?_)
 simp only [seval,EMT,eInt]
 refine mU e (.seqK (.seqK (.bind fun s1 q1=>?_))) h
 replace q1 := cutL_ok q1
 refine .region fun e h=>?_
 simp only [seval,EMT,und_9,q1,Nat.le_refl,and_true,true_and,dm,tm,und_55,und_5,bytes_enc,eInt]
 refine mU e (Mir.joinO (fun v6 : Int=>([U,U,.ptr 0 0,U,.d (.str y1.1),.d (.bool y1.2),U,.own 0 (List.map (eInt .u32) v4.1),.d (.int .i64 v4.2),.d (.int .u32 v6)] ++ us 77)) (fun v6=>⟨[[.d (.bool false),.nil]],[(86,v4.1.length)]⟩) (fun _=>rfl) ?_ ?_) h
 refine .block (.guard fun q2=>Mir.range (fun (i2 : Nat) (v5 : Int)=>([U,U,.ptr 0 0,U,.d (.str y1.1),.d (.bool y1.2),U,.own 0 (List.map (eInt .u32) v4.1),.d (.int .i64 v4.2),.d (.int .u32 v5),U,U,U,U,U,U,U,U,U,U,U,U,U,U,U,U,U,U,U,U,U,U,U,U,U,U,U,U,U,U,U,U,U,U,U,U,U,U,U,U,U,U,U,U,U,U,U,U,U,U,U,U,U,U,U,U,U,.d (.list (List.map (eInt .u8) (bytesI s1))),.d (.int .i64 ((bytesI s1).length : Int)),.d (.int .i64 (i2 : Int))] ++ us 17)) (fun i2 v5=>⟨[[.d (.bool false),.nil]],[(86,v4.1.length)]⟩) q2 (fun _ _=>rfl) (by simp only [seval,FMT,eInt,zNI]) (by simp only [seval,FMT,eInt,zNI]) ?_ ?_)
 intro i2 e1 v5 q3
 refine .sR fun e h=>?_
 simp only [seval,EMT,q3,eInt]
 refine mU e (.seqK (.condT rfl (.skip (Mir.toK (.seqK (.block (.sR fun e h=>?_))))))) h
 simp only [seval,EMT,und_55,sz_5,q3,Int.toNat_natCast,ag_5,eInt]
 refine mU e (.region fun e h=>?_) h
 simp only [seval,EMT,und_5,und_86,eInt]
 refine mU e (.region fun e h=>?_) h
 simp only [seval,EMT,eInt]
 cases h
 simp only [seval,FMT,eInt,Tryd.results36,ag_36,sz_36,q3]
 intro v5 q5
 refine .sR fun e h=>?_
 simp only [seval,EMT,q5,eInt]
 refine mU e (.seqK (.condF rfl (.exit fun e h=>?_))) h
 cases h
 simp only [seval,FMT,eInt,Tryd.results36,ag_36,sz_36]
 intro v6
 refine Mir.toK (.guard fun q6=>.region fun e h=>?_)
 simp only [seval,EMT,und_34,sz_86,zero_86,(oL 1),app_34,al_eInt,q6,eInt]
 cases h
 simp only [seval,FMT,eInt,Tryd.results36,ag_36,sz_36]
 intro v7
 refine Mir.toK (.region fun e h=>?_)
 simp only [seval,EMT,eInt]
 cases h
 simp only [seval,FMT,eInt,Tryd.results36,ag_36,sz_36]
 refine .exit fun e h=>?_
 cases h
 simp only [seval,FMT,eInt,Tryd.results36,ag_36,sz_36]
 intro v8
 refine Mir.toK (.seqK (.bind fun y2 h2=>.region fun e h=>?_))
 simp only [seval,EMT,eInt]
 refine SpecS.by (it_signed_spec h2) (by simp only [seval,FMT,eInt]) ?_
 simp only [seval,EMT,sz_36,eInt]
 refine mU e (.ret fun e h=>?_) h
 cases h
 simp only [seval,FMT,eInt,Tryd.results36,ag_36,sz_36]
def dc_Parse (a0 : (List UInt8)) : Option (ApiRat × Int) := bindO (dc_digits a0) fun (y1 : (List UInt8) × Int × Bool) => if (!y1.2.2) = true then some (ApiRat.mk (ApiInt.mk false []) (ApiInt.mk false []), 2) else bindO (it_Parse y1.1) fun (y2 : ApiInt × Int) => if (y2.2 != 0) = true then some (ApiRat.mk (ApiInt.mk false []) (ApiInt.mk false []), 2) else bindO (dc_power y1.2.1) fun (y3 : ApiInt) => bindO (ra_Make y2.1 y3) fun (y4 : ApiRat × Int) => some (y4.1, y4.2)
theorem dc_Parse_spec {a0 : (List UInt8)} {y : ApiRat × Int} (h : dc_Parse a0 = some y) : Spec gP 23 [.d (.str a0)] (.tuple [.agg [.d (.bool y.1.Num.Neg), .d (.list (List.map (eInt .u32) y.1.Num.Limbs)), .d (.bool y.1.Den.Neg), .d (.list (List.map (eInt .u32) y.1.Den.Limbs))], .d (.int .i64 y.2)]) := by
 refine spec_mir Tryd.func23 rfl (by kernel_rfl) (by kernel_rfl) (fun y : ApiRat × Int => .tuple [.agg [.d (.bool y.1.Num.Neg), .d (.list (List.map (eInt .u32) y.1.Num.Limbs)), .d (.bool y.1.Den.Neg), .d (.list (List.map (eInt .u32) y.1.Den.Limbs))], .d (.int .i64 y.2)]) ?_ h
 unfold dc_Parse
 simp only [List.replicate, List.length, nS, nA, Tryd.ntmps23, SV]
 refine .sR fun e h=>?_
 simp only [seval,EMT,zero_38]
 refine mU e (.seqK (.bind fun y1 hy1=>.region fun e h=>?_)) h
 simp only [seval,EMT]
 refine SpecS.by (dc_digits_spec hy1) (by simp only [seval,FMT]) ?_
 simp only [seval,EMT]
 refine mU e (.seqK (.sR fun e h=>?_)) h
 simp only [seval,EMT]
 refine mU e (.cond rfl (fun hb3=>?_) (fun hb3=>?_)) h
 refine .sR fun e h=>?_
 simp only [seval,EMT,zero_38,pl_38,sz_38]
 refine mU e (.ret fun e h=>?_) h
 cases h
 simp only [seval,FMT,Tryd.results23,ag_38,sz_38]
 refine .skip (Mir.toK (.seqK (.bind fun y2 hy4=>.region fun e h=>?_)))
 simp only [seval,EMT]
 refine SpecS.by (it_Parse_spec hy4) (by simp only [seval,FMT]) ?_
 simp only [seval,EMT,zero_36,sz_36]
 refine mU e (.seqK (.sR fun e h=>?_)) h
 simp only [seval,EMT]
 refine mU e (.cond rfl (fun hb6=>?_) (fun hb6=>?_)) h
 refine .sR fun e h=>?_
 simp only [seval,EMT,zero_38,pl_38,sz_38]
 refine mU e (.ret fun e h=>?_) h
 cases h
 simp only [seval,FMT,Tryd.results23,ag_38,sz_38]
 refine .skip (Mir.toK (.seqK (.bind fun y3 hy7=>.bind fun y4 hy8=>.regionD [] (by kernel_rfl) fun e h=>?_)))
 simp only [seval,EMT,SB,ag_36,sz_36]
 refine Spec.by (dc_power_spec hy7) (by simp only [seval,FMT]) ?_
 simp only [seval,EMT,SB]
 refine Spec.by (ra_Make_spec hy8) (by simp only [seval,FMT]) ?_
 simp only [seval,EMT,SB,sz_38]
 refine mU e (.ret fun e h=>?_) h
 cases h
 simp only [seval,FMT,Tryd.results23,ag_38,sz_38]
end Go.Proofs.YtpdjgamdnjfmkaaDoor
