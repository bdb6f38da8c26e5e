import Derived.Test.YtejknolljjpodaaGreatDoorGx
import Derived.Test.YtejknolljjpodaaGreatDoorTy
import Derived.Test.YtejknolljjpodaaGreatDoorGz
import Derived.Test.YtejknolljjpodaaGreatDoorLb
import Derived.Test.YtejknolljjpodaaGreatDoorMB
import Derived.Test.YtejknolljjpodaaGreatDoorMV
import Derived.Test.YtejknolljjpodaaGreatDoorMW
namespace Go.Proofs.YtejknolljjpodaaGreatDoor
open Go.RowKit
open Nat renaming reduceAdd → nA, reduceSub → nS, reduceMul → nM, reduceEqDiff → nE, reduceLeDiff → nL, reduceLT → nT, reduceBEq → nB
open Int renaming reduceLT → iT, reduceToNat → iN, reduceEq → iE
set_option linter.unusedVariables false
set_option linter.unusedSimpArgs false
set_option maxRecDepth 100000
set_option maxHeartbeats 8000000
structure BlockParser where
 s : (List UInt8)
 at_ : Int
 b : ApiBlock
 deriving DecidableEq
def encBlockParser (x : BlockParser) : List D := [.str x.s, .int .i64 x.at_, .bool x.b.Skip, .list (List.map encApiWord x.b.Words), .str x.b.Comment]
theorem ENME : type_of% (@encBlockParser.eq_1) := @encBlockParser.eq_1
theorem EME : type_of% (And.intro @SE <| And.intro @ENME <| @ENMB) := And.intro @SE <| And.intro @ENME <| @ENMB
theorem FME : type_of% (And.intro @SF <| And.intro @ENME <| @ENMB) := And.intro @SF <| And.intro @ENME <| @ENMB
def stringslite_HasSuffix (a0 : (List UInt8)) (a1 : (List UInt8)) : Option Bool := bindO (if (decide ((a0.length : Int) ≥ (a1.length : Int))) = true then bindO (cutF a0 (IntKind.i64.wrap ((a0.length : Int) - (a1.length : Int)))) fun (s1 : (List UInt8)) => some (s1 == a1) else some false) fun (v1 : Bool) => some v1
theorem stringslite_HasSuffix_spec {a0 : (List UInt8)} {a1 : (List UInt8)} {y : Bool} (h : stringslite_HasSuffix a0 a1 = some y) : Spec gP 115 [.d (.str a0), .d (.str a1)] (.d (.bool y)) := by
 refine spec_mir Tryz.func115 rfl (by kernel_rfl) (by kernel_rfl) (fun y : Bool => .d (.bool y)) ?_ h
 unfold stringslite_HasSuffix
 simp only [List.replicate, List.length, nS, nA, Tryz.ntmps115, SV]
 refine .sR fun e h=>?_
 simp only [seval,EME]
 refine mU e (.seqK (Mir.joinO (fun v1 : Bool=>([U,U,U,U,.d (.bool v1)] ++ us 16)) (fun v1=>⟨[],[]⟩) (fun _=>rfl) ?_ ?_)) h
 refine .ite (fun hb1=>?_) (fun hb1=>?_)
 refine .bind fun s1 q2=>?_
 replace q2 := cutF_ok q2
 refine .region fun e h=>?_
 simp only [seval,EME,und_9,q2,Nat.le_refl,and_true,true_and,dm,tm,hb1]
 cases h
 simp only [seval,FME,hb1]
 refine .region fun e h=>?_
 simp only [seval,EME,und_9,hb1]
 cases h
 simp only [seval,FME,hb1]
 intro v1
 refine Mir.toK (.ret fun e h=>?_)
 cases h
 simp only [seval,FME,Tryz.results115]
def strings_HasSuffix (a0 : (List UInt8)) (a1 : (List UInt8)) : Option Bool := bindO (stringslite_HasSuffix a0 a1) fun (y1 : Bool) => some y1
theorem strings_HasSuffix_spec {a0 : (List UInt8)} {a1 : (List UInt8)} {y : Bool} (h : strings_HasSuffix a0 a1 = some y) : Spec gP 67 [.d (.str a0), .d (.str a1)] (.d (.bool y)) := by
 refine spec_mir Tryz.func67 rfl (by kernel_rfl) (by kernel_rfl) (fun y : Bool => .d (.bool y)) ?_ h
 unfold strings_HasSuffix
 simp only [List.replicate, List.length, nS, nA, Tryz.ntmps67, SV]
 refine .sR fun e h=>?_
 simp only [seval,EME]
 refine mU e (.seqK (.bind fun y1 hy1=>.region fun e h=>?_)) h
 simp only [seval,EME]
 refine SpecS.by (stringslite_HasSuffix_spec hy1) (by simp only [seval,FME]) ?_
 simp only [seval,EME]
 refine mU e (.ret fun e h=>?_) h
 cases h
 simp only [seval,FME,Tryz.results67]
def stringslite_Index (a0 : (List UInt8)) (a1 : (List UInt8)) : Option Int := if (((a1.length : Int) == 0) || (a1 == a0)) = true then some 0 else if ((a1.length : Int) == 1) = true then bindO (gt a1 0) fun (c1 : UInt8) => bindO (stringslite_IndexByte a0 (c1.toNat : Int)) fun (y1 : Int) => some y1 else if (decide ((a1.length : Int) ≥ (a0.length : Int))) = true then some (-1) else none
theorem stringslite_Index_spec {a0 : (List UInt8)} {a1 : (List UInt8)} {y : Int} (h : stringslite_Index a0 a1 = some y) : Spec gP 138 [.d (.str a0), .d (.str a1)] (.d (.int .i64 y)) := by
 refine spec_mir Tryz.func138 rfl (by kernel_rfl) (by kernel_rfl) (fun y : Int => .d (.int .i64 y)) ?_ h
 unfold stringslite_Index
 simp only [List.replicate, List.length, nS, nA, Tryz.ntmps138, SV]
 refine .sR fun e h=>?_
 simp only [seval,EME]
 refine mU e (.sR fun e h=>?_) h
 simp only [seval,EME,und_9]
 refine mU e (.seqK (.block (.seqK (.joinV ([.d (.str a0),.d (.str a1),U,U,U,.d (.int .i64 (a1.length : Int)),U,U,U,U,U,U,U,U,U,U,.d (.bool (((a1.length : Int) == 0) || (a1 == a0)))] ++ us 126) ⟨[],[]⟩ rfl ?_ ?_)))) h
 refine SWs.region ?_
 rcases Bool.eq_false_or_eq_true ((a1.length : Int) == 0) with hb7 | hb7
 simp only [seval,EME,SL,PB,hb7]
 simp only [seval,EME,SL,PB,hb7]
 refine Mir.toK (.cond rfl (fun hb13=>?_) (fun hb13=>?_))
 refine .sR fun e h=>?_
 simp only [seval,EME]
 refine mU e (.ret fun e h=>?_) h
 cases h
 simp only [seval,FME,Tryz.results138]
 refine .sR fun e h=>?_
 simp only [seval,EME]
 refine mU e (.cond rfl (fun hb18=>?_) (fun hb18=>?_)) h
 refine .seqK (.bind fun c1 q19=>?_)
 replace q19 := gt_ok q19
 simp only [Int.reduceToNat,Int.reduceLT,Nat.sub_zero,dp0] at q19
 refine .bind fun y1 hy20=>.region fun e h=>?_
 simp only [seval,EME,und_9,q19]
 refine SpecS.by (stringslite_IndexByte_spec hy20) (by simp only [seval,FME]) ?_
 simp only [seval,EME]
 refine mU e (.ret fun e h=>?_) h
 cases h
 simp only [seval,FME,Tryz.results138]
 refine .sR fun e h=>?_
 simp only [seval,EME,und_9]
 refine mU e (.cond rfl (fun hb22=>?_) (fun hb22=>?_)) h
 refine .sR fun e h=>?_
 simp only [seval,EME]
 refine mU e (.ret fun e h=>?_) h
 cases h
 simp only [seval,FME,Tryz.results138]
 exact Mir.no
def stringslite_Cut (a0 : (List UInt8)) (a1 : (List UInt8)) : Option ((List UInt8) × (List UInt8) × Bool) := bindO (stringslite_Index a0 a1) fun (y1 : Int) => if (decide (y1 ≥ 0)) = true then bindO (cutT a0 y1) fun (s1 : (List UInt8)) => bindO (cutF a0 (IntKind.i64.wrap (y1 + (a1.length : Int)))) fun (s2 : (List UInt8)) => some (s1, s2, true) else some (a0, [], false)
theorem stringslite_Cut_spec {a0 : (List UInt8)} {a1 : (List UInt8)} {y : (List UInt8) × (List UInt8) × Bool} (h : stringslite_Cut a0 a1 = some y) : Spec gP 116 [.d (.str a0), .d (.str a1)] (.tuple [.d (.str y.1), .d (.str y.2.1), .d (.bool y.2.2)]) := by
 refine spec_mir Tryz.func116 rfl (by kernel_rfl) (by kernel_rfl) (fun y : (List UInt8) × (List UInt8) × Bool => .tuple [.d (.str y.1), .d (.str y.2.1), .d (.bool y.2.2)]) ?_ h
 unfold stringslite_Cut
 simp only [List.replicate, List.length, nS, nA, Tryz.ntmps116, SV]
 refine .sR fun e h=>?_
 simp only [seval,EME]
 refine mU e (.seqK (.seqK (.bind fun y1 hy1=>.region fun e h=>?_))) h
 simp only [seval,EME]
 refine SpecS.by (stringslite_Index_spec hy1) (by simp only [seval,FME]) ?_
 simp only [seval,EME]
 refine mU e (.sR fun e h=>?_) h
 simp only [seval,EME]
 refine mU e (.cond rfl (fun hb5=>?_) (fun hb5=>?_)) h
 refine .seqK (.bind fun s1 q6=>?_)
 replace q6 := cutT_ok q6
 refine .bind fun s2 q7=>?_
 replace q7 := cutF_ok q7
 refine .regionD [] (by kernel_rfl) fun e h=>?_
 simp only [seval,EME,SB,und_9,q6,Nat.le_refl,and_true,true_and,dm,tm,q7]
 refine mU e (.ret fun e h=>?_) h
 cases h
 simp only [seval,FME,Tryz.results116]
 refine .skip (Mir.toK (.sR fun e h=>?_))
 simp only [seval,EME]
 refine mU e (.ret fun e h=>?_) h
 cases h
 simp only [seval,FME,Tryz.results116]
def strings_Cut (a0 : (List UInt8)) (a1 : (List UInt8)) : Option ((List UInt8) × (List UInt8) × Bool) := bindO (stringslite_Cut a0 a1) fun (y1 : (List UInt8) × (List UInt8) × Bool) => some (y1.1, y1.2.1, y1.2.2)
theorem strings_Cut_spec {a0 : (List UInt8)} {a1 : (List UInt8)} {y : (List UInt8) × (List UInt8) × Bool} (h : strings_Cut a0 a1 = some y) : Spec gP 68 [.d (.str a0), .d (.str a1)] (.tuple [.d (.str y.1), .d (.str y.2.1), .d (.bool y.2.2)]) := by
 refine spec_mir Tryz.func68 rfl (by kernel_rfl) (by kernel_rfl) (fun y : (List UInt8) × (List UInt8) × Bool => .tuple [.d (.str y.1), .d (.str y.2.1), .d (.bool y.2.2)]) ?_ h
 unfold strings_Cut
 simp only [List.replicate, List.length, nS, nA, Tryz.ntmps68, SV]
 refine .sR fun e h=>?_
 simp only [seval,EME]
 refine mU e (.seqK (.bind fun y1 hy1=>.region fun e h=>?_)) h
 simp only [seval,EME]
 refine SpecS.by (stringslite_Cut_spec hy1) (by simp only [seval,FME]) ?_
 simp only [seval,EME]
 refine mU e (.ret fun e h=>?_) h
 cases h
 simp only [seval,FME,Tryz.results68]
def stringslite_HasPrefix (a0 : (List UInt8)) (a1 : (List UInt8)) : Option Bool := bindO (if (decide ((a0.length : Int) ≥ (a1.length : Int))) = true then bindO (cutT a0 (a1.length : Int)) fun (s1 : (List UInt8)) => some (s1 == a1) else some false) fun (v1 : Bool) => some v1
theorem stringslite_HasPrefix_spec {a0 : (List UInt8)} {a1 : (List UInt8)} {y : Bool} (h : stringslite_HasPrefix a0 a1 = some y) : Spec gP 195 [.d (.str a0), .d (.str a1)] (.d (.bool y)) := by
 refine spec_mir Tryz.func195 rfl (by kernel_rfl) (by kernel_rfl) (fun y : Bool => .d (.bool y)) ?_ h
 unfold stringslite_HasPrefix
 simp only [List.replicate, List.length, nS, nA, Tryz.ntmps195, SV]
 refine .sR fun e h=>?_
 simp only [seval,EME]
 refine mU e (.seqK (Mir.joinO (fun v1 : Bool=>([U,U,U,U,.d (.bool v1)] ++ us 13)) (fun v1=>⟨[],[]⟩) (fun _=>rfl) ?_ ?_)) h
 refine .ite (fun hb1=>?_) (fun hb1=>?_)
 refine .bind fun s1 q2=>?_
 replace q2 := cutT_ok q2
 refine .region fun e h=>?_
 simp only [seval,EME,und_9,q2,Nat.le_refl,and_true,true_and,dm,tm,hb1]
 cases h
 simp only [seval,FME,hb1]
 refine .region fun e h=>?_
 simp only [seval,EME,und_9,hb1]
 cases h
 simp only [seval,FME,hb1]
 intro v1
 refine Mir.toK (.ret fun e h=>?_)
 cases h
 simp only [seval,FME,Tryz.results195]
def stringslite_CutPrefix (a0 : (List UInt8)) (a1 : (List UInt8)) : Option ((List UInt8) × Bool) := bindO (stringslite_HasPrefix a0 a1) fun (y1 : Bool) => if (!y1) = true then some (a0, false) else bindO (cutF a0 (a1.length : Int)) fun (s1 : (List UInt8)) => some (s1, true)
theorem stringslite_CutPrefix_spec {a0 : (List UInt8)} {a1 : (List UInt8)} {y : (List UInt8) × Bool} (h : stringslite_CutPrefix a0 a1 = some y) : Spec gP 183 [.d (.str a0), .d (.str a1)] (.tuple [.d (.str y.1), .d (.bool y.2)]) := by
 refine spec_mir Tryz.func183 rfl (by kernel_rfl) (by kernel_rfl) (fun y : (List UInt8) × Bool => .tuple [.d (.str y.1), .d (.bool y.2)]) ?_ h
 unfold stringslite_CutPrefix
 simp only [List.replicate, List.length, nS, nA, Tryz.ntmps183, SV]
 refine .sR fun e h=>?_
 simp only [seval,EME]
 refine mU e (.seqK (.seqK (.bind fun y1 hy1=>.region fun e h=>?_))) h
 simp only [seval,EME]
 refine SpecS.by (stringslite_HasPrefix_spec hy1) (by simp only [seval,FME]) ?_
 simp only [seval,EME]
 refine mU e (.cond rfl (fun hb3=>?_) (fun hb3=>?_)) h
 refine .sR fun e h=>?_
 simp only [seval,EME]
 refine mU e (.ret fun e h=>?_) h
 cases h
 simp only [seval,FME,Tryz.results183]
 refine .skip (Mir.toK (.seqK (.bind fun s1 q4=>?_)))
 replace q4 := cutF_ok q4
 refine .region fun e h=>?_
 simp only [seval,EME,und_9,q4,Nat.le_refl,and_true,true_and,dm,tm]
 refine mU e (.ret fun e h=>?_) h
 cases h
 simp only [seval,FME,Tryz.results183]
def strings_CutPrefix (a0 : (List UInt8)) (a1 : (List UInt8)) : Option ((List UInt8) × Bool) := bindO (stringslite_CutPrefix a0 a1) fun (y1 : (List UInt8) × Bool) => some (y1.1, y1.2)
theorem strings_CutPrefix_spec {a0 : (List UInt8)} {a1 : (List UInt8)} {y : (List UInt8) × Bool} (h : strings_CutPrefix a0 a1 = some y) : Spec gP 172 [.d (.str a0), .d (.str a1)] (.tuple [.d (.str y.1), .d (.bool y.2)]) := by
 refine spec_mir Tryz.func172 rfl (by kernel_rfl) (by kernel_rfl) (fun y : (List UInt8) × Bool => .tuple [.d (.str y.1), .d (.bool y.2)]) ?_ h
 unfold strings_CutPrefix
 simp only [List.replicate, List.length, nS, nA, Tryz.ntmps172, SV]
 refine .sR fun e h=>?_
 simp only [seval,EME]
 refine mU e (.seqK (.bind fun y1 hy1=>.region fun e h=>?_)) h
 simp only [seval,EME]
 refine SpecS.by (stringslite_CutPrefix_spec hy1) (by simp only [seval,FME]) ?_
 simp only [seval,EME]
 refine mU e (.ret fun e h=>?_) h
 cases h
 simp only [seval,FME,Tryz.results172]
def bk_digits (a0 : (List UInt8)) : Option Bool := bindO (if (a0 == []) = true then some false else bindO (strings_Trim a0 [48, 49, 50, 51, 52, 53, 54, 55, 56, 57]) fun (y1 : (List UInt8)) => some (y1 == [])) fun (v1 : Bool) => some v1
theorem bk_digits_spec {a0 : (List UInt8)} {y : Bool} (h : bk_digits a0 = some y) : Spec gP 173 [.d (.str a0)] (.d (.bool y)) := by
 refine spec_mir Tryz.func173 rfl (by kernel_rfl) (by kernel_rfl) (fun y : Bool => .d (.bool y)) ?_ h
 unfold bk_digits
 simp only [List.replicate, List.length, nS, nA, Tryz.ntmps173, SV]
 refine .sR fun e h=>?_
 simp only [seval,EME]
 refine mU e (.seqK (Mir.joinO (fun v1 : Bool=>([U,U,.d (.bool v1)] ++ us 7)) (fun v1=>⟨[],[]⟩) (fun _=>rfl) ?_ ?_)) h
 refine .ite (fun hb1=>?_) (fun hb1=>?_)
 refine .region fun e h=>?_
 simp only [seval,EME,hb1]
 cases h
 simp only [seval,FME,hb1]
 refine .bind fun y1 hy2=>.region fun e h=>?_
 simp only [seval,EME,hb1]
 refine SpecS.by (strings_Trim_spec hy2) (by simp only [seval,FME,hb1]) ?_
 simp only [seval,EME,hb1]
 cases h
 simp only [seval,FME,hb1]
 intro v1
 refine Mir.toK (.ret fun e h=>?_)
 cases h
 simp only [seval,FME,Tryz.results173]
def bk_Value (a0 : (List UInt8)) : Option (Int × Int) := bindO (strings_CutPrefix a0 [45]) fun (y1 : (List UInt8) × Bool) => bindO (strings_Cut y1.1 [46]) fun (y2 : (List UInt8) × (List UInt8) × Bool) => bindO (bindO (bk_digits y2.1) fun (y3 : Bool) => if y3 = true then if (decide ((y2.1.length : Int) > 1)) = true then bindO (gt y2.1 0) fun (c1 : UInt8) => if ((c1.toNat : Int) == 48) = true then some true else if y2.2.2 = true then bindO (bk_digits y2.2.1) fun (y4 : Bool) => if y4 = true then if (decide ((y2.2.1.length : Int) > 3)) = true then some true else bindO (gt y2.2.1 (IntKind.i64.wrap ((y2.2.1.length : Int) - 1))) fun (c2 : UInt8) => if ((c2.toNat : Int) == 48) = true then some true else if y1.2 = true then some (y1.1 == [48]) else some false else some true else if y1.2 = true then some (y1.1 == [48]) else some false else if y2.2.2 = true then bindO (bk_digits y2.2.1) fun (y5 : Bool) => if y5 = true then if (decide ((y2.2.1.length : Int) > 3)) = true then some true else bindO (gt y2.2.1 (IntKind.i64.wrap ((y2.2.1.length : Int) - 1))) fun (c3 : UInt8) => if ((c3.toNat : Int) == 48) = true then some true else if y1.2 = true then some (y1.1 == [48]) else some false else some true else if y1.2 = true then some (y1.1 == [48]) else some false else some true) fun (v1 : Bool) => if v1 = true then some (0, 2) else if (decide ((y2.1.length : Int) > 10)) = true then some (0, 11) else guardO (okStr y2.1 y2.2.1) ( bindO (cutF [48, 48, 48] (y2.2.1.length : Int)) fun (s1 : (List UInt8)) => guardO (okStr (y2.1 ++ y2.2.1) s1) ( bindO (strconv_ParseInt ((y2.1 ++ y2.2.1) ++ s1) 10 64) fun (y6 : Int) => if (decide (y6 > 1000000000000)) = true then some (0, 11) else bindO (if y1.2 = true then some (IntKind.i64.wrap (0 - y6)) else some y6) fun (v2 : Int) => some (v2, 0)))
theorem bk_Value_spec {a0 : (List UInt8)} {y : Int × Int} (h : bk_Value a0 = some y) : Spec gP 161 [.d (.str a0)] (.tuple [.d (.int .i64 y.1), .d (.int .i64 y.2)]) := by
 refine spec_mir Tryz.func161 rfl (by kernel_rfl) (by kernel_rfl) (fun y : Int × Int => .tuple [.d (.int .i64 y.1), .d (.int .i64 y.2)]) ?_ h
 unfold bk_Value
 simp only [List.replicate, List.length, nS, nA, Tryz.ntmps161, SV]
 refine .sR fun e h=>?_
 simp only [seval,EME]
 refine mU e (.seqK (.bind fun y1 hy1=>.region fun e h=>?_)) h
 simp only [seval,EME]
 refine SpecS.by (strings_CutPrefix_spec hy1) (by simp only [seval,FME]) ?_
 simp only [seval,EME]
 refine mU e (.seqK (.bind fun y2 hy2=>.region fun e h=>?_)) h
 simp only [seval,EME]
 refine SpecS.by (strings_Cut_spec hy2) (by simp only [seval,FME]) ?_
 simp only [seval,EME]
 refine mU e (.seqK (.seqK (Mir.joinO (fun v1 : Bool=>([U,U,U,U,U,.d (.bool y1.2),.d (.str y2.1),.d (.str y2.2.1),U,U,U,U,U,U,U,U,U,U,U,U,U,U,U,U,U,U,U,U,U,U,U,U,U,U,U,U,U,U,U,U,U,U,U,U,U,U,U,U,U,U,U,U,U,U,U,U,U,U,U,U,U,U,.d (.bool v1)] ++ us 20)) (fun v1=>⟨[],[]⟩) (fun _=>rfl) ?_ ?_))) h
 refine .bind fun y3 hy3=>.ite (fun hb4=>?_) (fun hb4=>?_)
 refine .ite (fun hb5=>?_) (fun hb5=>?_)
 refine .bind fun c1 q6=>?_
 replace q6 := gt_ok q6
 simp only [Int.reduceToNat,Int.reduceLT,Nat.sub_zero,dp0] at q6
 refine .ite (fun hb7=>?_) (fun hb7=>?_)
 refine .region fun e h=>?_
 simp only [seval,EME,hb4,hb5,hb7]
 refine SpecS.by (bk_digits_spec hy3) (by simp only [seval,FME,hb4,hb5,hb7]) ?_
 simp only [seval,EME,und_9,q6,hb4,hb5,hb7]
 cases h
 simp only [seval,FME,hb4,hb5,hb7]
 refine .ite (fun hb8=>?_) (fun hb8=>?_)
 refine .bind fun y4 hy9=>.ite (fun hb10=>?_) (fun hb10=>?_)
 refine .ite (fun hb11=>?_) (fun hb11=>?_)
 refine .region fun e h=>?_
 simp only [seval,EME,hb4,hb5,hb7,hb8,hb10,hb11]
 refine SpecS.by (bk_digits_spec hy3) (by simp only [seval,FME,hb4,hb5,hb7,hb8,hb10,hb11]) ?_
 simp only [seval,EME,und_9,q6,hb4,hb5,hb7,hb8,hb10,hb11]
 refine SpecS.by (bk_digits_spec hy9) (by simp only [seval,FME,hb4,hb5,hb7,hb8,hb10,hb11]) ?_
 simp only [seval,EME,und_9,hb4,hb5,hb7,hb8,hb10,hb11]
 cases h
 simp only [seval,FME,hb4,hb5,hb7,hb8,hb10,hb11]
 refine .bind fun c2 q12=>?_
 replace q12 := gt_ok q12
 refine .ite (fun hb13=>?_) (fun hb13=>?_)
 refine .region fun e h=>?_
 simp only [seval,EME,hb4,hb5,hb7,hb8,hb10,hb11,hb13]
 refine SpecS.by (bk_digits_spec hy3) (by simp only [seval,FME,hb4,hb5,hb7,hb8,hb10,hb11,hb13]) ?_
 simp only [seval,EME,und_9,q6,hb4,hb5,hb7,hb8,hb10,hb11,hb13]
 refine SpecS.by (bk_digits_spec hy9) (by simp only [seval,FME,hb4,hb5,hb7,hb8,hb10,hb11,hb13]) ?_
 simp only [seval,EME,und_9,q12,hb4,hb5,hb7,hb8,hb10,hb11,hb13]
 cases h
 simp only [seval,FME,hb4,hb5,hb7,hb8,hb10,hb11,hb13]
 refine .ite (fun hb14=>?_) (fun hb14=>?_)
 refine .region fun e h=>?_
 simp only [seval,EME,hb4,hb5,hb7,hb8,hb10,hb11,hb13,hb14]
 refine SpecS.by (bk_digits_spec hy3) (by simp only [seval,FME,hb4,hb5,hb7,hb8,hb10,hb11,hb13,hb14]) ?_
 simp only [seval,EME,und_9,q6,hb4,hb5,hb7,hb8,hb10,hb11,hb13,hb14]
 refine SpecS.by (bk_digits_spec hy9) (by simp only [seval,FME,hb4,hb5,hb7,hb8,hb10,hb11,hb13,hb14]) ?_
 simp only [seval,EME,und_9,q12,hb4,hb5,hb7,hb8,hb10,hb11,hb13,hb14]
 cases h
 simp only [seval,FME,hb4,hb5,hb7,hb8,hb10,hb11,hb13,hb14]
 refine .region fun e h=>?_
 simp only [seval,EME,hb4,hb5,hb7,hb8,hb10,hb11,hb13,hb14]
 refine SpecS.by (bk_digits_spec hy3) (by simp only [seval,FME,hb4,hb5,hb7,hb8,hb10,hb11,hb13,hb14]) ?_
 simp only [seval,EME,und_9,q6,hb4,hb5,hb7,hb8,hb10,hb11,hb13,hb14]
 refine SpecS.by (bk_digits_spec hy9) (by simp only [seval,FME,hb4,hb5,hb7,hb8,hb10,hb11,hb13,hb14]) ?_
 simp only [seval,EME,und_9,q12,hb4,hb5,hb7,hb8,hb10,hb11,hb13,hb14]
 cases h
 simp only [seval,FME,hb4,hb5,hb7,hb8,hb10,hb11,hb13,hb14]
 refine .region fun e h=>?_
 simp only [seval,EME,hb4,hb5,hb7,hb8,hb10]
 refine SpecS.by (bk_digits_spec hy3) (by simp only [seval,FME,hb4,hb5,hb7,hb8,hb10]) ?_
 simp only [seval,EME,und_9,q6,hb4,hb5,hb7,hb8,hb10]
 refine SpecS.by (bk_digits_spec hy9) (by simp only [seval,FME,hb4,hb5,hb7,hb8,hb10]) ?_
 simp only [seval,EME,hb4,hb5,hb7,hb8,hb10]
 cases h
 simp only [seval,FME,hb4,hb5,hb7,hb8,hb10]
 refine .ite (fun hb15=>?_) (fun hb15=>?_)
 refine .region fun e h=>?_
 simp only [seval,EME,hb4,hb5,hb7,hb8,hb15]
 refine SpecS.by (bk_digits_spec hy3) (by simp only [seval,FME,hb4,hb5,hb7,hb8,hb15]) ?_
 simp only [seval,EME,und_9,q6,hb4,hb5,hb7,hb8,hb15]
 cases h
 simp only [seval,FME,hb4,hb5,hb7,hb8,hb15]
 refine .region fun e h=>?_
 simp only [seval,EME,hb4,hb5,hb7,hb8,hb15]
 refine SpecS.by (bk_digits_spec hy3) (by simp only [seval,FME,hb4,hb5,hb7,hb8,hb15]) ?_
 simp only [seval,EME,und_9,q6,hb4,hb5,hb7,hb8,hb15]
 cases h
 simp only [seval,FME,hb4,hb5,hb7,hb8,hb15]
 refine .ite (fun hb16=>?_) (fun hb16=>?_)
 refine .bind fun y5 hy17=>.ite (fun hb18=>?_) (fun hb18=>?_)
 refine .ite (fun hb19=>?_) (fun hb19=>?_)
 refine .region fun e h=>?_
 simp only [seval,EME,hb4,hb5,hb16,hb18,hb19]
 refine SpecS.by (bk_digits_spec hy3) (by simp only [seval,FME,hb4,hb5,hb16,hb18,hb19]) ?_
 simp only [seval,EME,und_9,hb4,hb5,hb16,hb18,hb19]
 refine SpecS.by (bk_digits_spec hy17) (by simp only [seval,FME,hb4,hb5,hb16,hb18,hb19]) ?_
 simp only [seval,EME,und_9,hb4,hb5,hb16,hb18,hb19]
 cases h
 simp only [seval,FME,hb4,hb5,hb16,hb18,hb19]
 refine .bind fun c3 q20=>?_
 replace q20 := gt_ok q20
 refine .ite (fun hb21=>?_) (fun hb21=>?_)
 refine .region fun e h=>?_
 simp only [seval,EME,hb4,hb5,hb16,hb18,hb19,hb21]
 refine SpecS.by (bk_digits_spec hy3) (by simp only [seval,FME,hb4,hb5,hb16,hb18,hb19,hb21]) ?_
 simp only [seval,EME,und_9,hb4,hb5,hb16,hb18,hb19,hb21]
 refine SpecS.by (bk_digits_spec hy17) (by simp only [seval,FME,hb4,hb5,hb16,hb18,hb19,hb21]) ?_
 simp only [seval,EME,und_9,q20,hb4,hb5,hb16,hb18,hb19,hb21]
 cases h
 simp only [seval,FME,hb4,hb5,hb16,hb18,hb19,hb21]
 refine .ite (fun hb22=>?_) (fun hb22=>?_)
 refine .region fun e h=>?_
 simp only [seval,EME,hb4,hb5,hb16,hb18,hb19,hb21,hb22]
 refine SpecS.by (bk_digits_spec hy3) (by simp only [seval,FME,hb4,hb5,hb16,hb18,hb19,hb21,hb22]) ?_
 simp only [seval,EME,und_9,hb4,hb5,hb16,hb18,hb19,hb21,hb22]
 refine SpecS.by (bk_digits_spec hy17) (by simp only [seval,FME,hb4,hb5,hb16,hb18,hb19,hb21,hb22]) ?_
 simp only [seval,EME,und_9,q20,hb4,hb5,hb16,hb18,hb19,hb21,hb22]
 cases h
 simp only [seval,FME,hb4,hb5,hb16,hb18,hb19,hb21,hb22]
 refine .region fun e h=>?_
 simp only [seval,EME,hb4,hb5,hb16,hb18,hb19,hb21,hb22]
 refine SpecS.by (bk_digits_spec hy3) (by simp only [seval,FME,hb4,hb5,hb16,hb18,hb19,hb21,hb22]) ?_
 simp only [seval,EME,und_9,hb4,hb5,hb16,hb18,hb19,hb21,hb22]
 refine SpecS.by (bk_digits_spec hy17) (by simp only [seval,FME,hb4,hb5,hb16,hb18,hb19,hb21,hb22]) ?_
 simp only [seval,EME,und_9,q20,hb4,hb5,hb16,hb18,hb19,hb21,hb22]
 cases h
 simp only [seval,FME,hb4,hb5,hb16,hb18,hb19,hb21,hb22]
 refine .region fun e h=>?_
 simp only [seval,EME,hb4,hb5,hb16,hb18]
 refine SpecS.by (bk_digits_spec hy3) (by simp only [seval,FME,hb4,hb5,hb16,hb18]) ?_
 simp only [seval,EME,und_9,hb4,hb5,hb16,hb18]
 refine SpecS.by (bk_digits_spec hy17) (by simp only [seval,FME,hb4,hb5,hb16,hb18]) ?_
 simp only [seval,EME,hb4,hb5,hb16,hb18]
 cases h
 simp only [seval,FME,hb4,hb5,hb16,hb18]
 refine .ite (fun hb23=>?_) (fun hb23=>?_)
 refine .region fun e h=>?_
 simp only [seval,EME,hb4,hb5,hb16,hb23]
 refine SpecS.by (bk_digits_spec hy3) (by simp only [seval,FME,hb4,hb5,hb16,hb23]) ?_
 simp only [seval,EME,und_9,hb4,hb5,hb16,hb23]
 cases h
 simp only [seval,FME,hb4,hb5,hb16,hb23]
 refine .region fun e h=>?_
 simp only [seval,EME,hb4,hb5,hb16,hb23]
 refine SpecS.by (bk_digits_spec hy3) (by simp only [seval,FME,hb4,hb5,hb16,hb23]) ?_
 simp only [seval,EME,und_9,hb4,hb5,hb16,hb23]
 cases h
 simp only [seval,FME,hb4,hb5,hb16,hb23]
 refine .region fun e h=>?_
 simp only [seval,EME,hb4]
 refine SpecS.by (bk_digits_spec hy3) (by simp only [seval,FME,hb4]) ?_
 simp only [seval,EME,hb4]
 cases h
 simp only [seval,FME,hb4]
 intro v1
 refine Mir.toK (.cond rfl (fun hb25=>?_) (fun hb25=>?_))
 refine .sR fun e h=>?_
 simp only [seval,EME]
 refine mU e (.ret fun e h=>?_) h
 cases h
 simp only [seval,FME,Tryz.results161]
 refine .skip (Mir.toK (.seqK (.sR fun e h=>?_)))
 simp only [seval,EME,und_9]
 refine mU e (.cond rfl (fun hb27=>?_) (fun hb27=>?_)) h
 refine .sR fun e h=>?_
 simp only [seval,EME]
 refine mU e (.ret fun e h=>?_) h
 cases h
 simp only [seval,FME,Tryz.results161]
 refine .skip (Mir.toK (.seqK (.guard fun q28=>?_)))
 replace q28 := okStr_ok q28
 refine .bind fun s1 q29=>?_
 replace q29 := cutF_ok q29
 simp only [xLC,xLN,Nat.zero_add,nA] at q29
 refine .guard fun q30=>?_
 replace q30 := okStr_ok q30
 refine .bind fun y6 hy31=>.region fun e h=>?_
 simp only [seval,EME,q28,und_9,q29,Nat.le_refl,and_true,true_and,dm,tm,q30]
 refine SpecS.by (strconv_ParseInt_spec hy31) (by simp only [seval,FME]) ?_
 simp only [seval,EME]
 refine mU e (.seqK (.sR fun e h=>?_)) h
 simp only [seval,EME]
 refine mU e (.cond rfl (fun hb33=>?_) (fun hb33=>?_)) h
 refine .sR fun e h=>?_
 simp only [seval,EME]
 refine mU e (.ret fun e h=>?_) h
 cases h
 simp only [seval,FME,Tryz.results161]
 refine .skip (Mir.toK (.seqK (.sR fun e h=>?_)))
 simp only [seval,EME]
 refine mU e (Mir.joinO (fun v2 : Int=>([U,U,U,U,U,U,U,U,U,.d (.int .i64 v2)] ++ us 73)) (fun v2=>⟨[],[]⟩) (fun _=>rfl) ?_ ?_) h
 refine .cond rfl (fun hb35=>?_) (fun hb35=>?_)
 refine .region fun e h=>?_
 simp only [seval,EME]
 cases h
 simp only [seval,FME,Tryz.results161]
 refine .skip fun e h=>?_
 cases h
 simp only [seval,FME,Tryz.results161]
 intro v2
 refine Mir.toK (.sR fun e h=>?_)
 simp only [seval,EME]
 refine mU e (.ret fun e h=>?_) h
 cases h
 simp only [seval,FME,Tryz.results161]
def bk_Parse (a0 : (List UInt8)) : Option (ApiBlock × Int × Int) := if (decide ((a0.length : Int) > 65536)) = true then some (ApiBlock.mk false [] [], 0, 3) else bindO (bindO (bindO (bindO (some ()) fun (v1 : Unit) => if (0 == (a0.length : Int)) = true then some true else bindO (gt a0 0) fun (c1 : UInt8) => some ((c1.toNat : Int) != 47)) fun (v2 : Bool) => if v2 = true then some (false, 0) else some (true, 1)) fun (v3 : Bool × Int) => loopX (fun (v4 : Bool × BlockParser) => bindO (some ()) fun (v5 : Unit) => if (v4.2.at_ == (v4.2.s.length : Int)) = true then if v4.1 = true then some (.ret (2, v4.2)) else some (.ret (0, v4.2)) else bindO (gt v4.2.s v4.2.at_) fun (c2 : UInt8) => if ((c2.toNat : Int) == 40) = true then bindO (bindO (loopX (fun (v6 : Int) => bindO (bindO (some ()) fun (v7 : Unit) => if (v6 == (v4.2.s.length : Int)) = true then some false else bindO (gt v4.2.s v6) fun (c3 : UInt8) => bindO (bk_printable (c3.toNat : Int)) fun (y1 : Bool) => some y1) fun (v8 : Bool) => if v8 = true then some (.go (IntKind.i64.wrap (v6 + 1))) else some (.ret v6)) fuel (IntKind.i64.wrap (v4.2.at_ + 1))) fun (v9 : Int) => bindO (cutL v4.2.s (IntKind.i64.wrap (v4.2.at_ + 1)) v9) fun (s1 : (List UInt8)) => if (decide ((s1.length : Int) > 100)) = true then some (3, v4.2) else bindO (if (s1 == []) = true then some (true, v9) else bindO (bindO (bindO (some ()) fun (v10 : Unit) => if (v9 == (v4.2.s.length : Int)) = true then some true else bindO (gt v4.2.s v9) fun (c4 : UInt8) => some ((c4.toNat : Int) != 41)) fun (v11 : Bool) => if v11 = true then some (false, v9) else some (true, IntKind.i64.wrap (v9 + 1))) fun (v12 : Bool × Int) => some (!v12.1, v12.2)) fun (v13 : Bool × Int) => if v13.1 = true then some (2, BlockParser.mk v4.2.s v13.2 v4.2.b) else bindO (some ()) fun (v14 : Unit) => if (!(v13.2 == (v4.2.s.length : Int))) = true then some (2, BlockParser.mk v4.2.s v13.2 (ApiBlock.mk v4.2.b.Skip v4.2.b.Words s1)) else some (0, BlockParser.mk v4.2.s v13.2 (ApiBlock.mk v4.2.b.Skip v4.2.b.Words s1))) fun (v15 : Int × BlockParser) => some (.ret (v15.1, v15.2)) else bindO (bindO (gt v4.2.s v4.2.at_) fun (c5 : UInt8) => if ((decide ((c5.toNat : Int) < 65)) || (decide ((c5.toNat : Int) > 90))) = true then some (2, v4.2) else if ((v4.2.b.Words.length : Int) == 16) = true then some (3, v4.2) else bindO (loopX (fun (v16 : Int) => bindO (if (decide (v16 < (v4.2.s.length : Int))) = true then bindO (gt v4.2.s v16) fun (c6 : UInt8) => if (decide ((c6.toNat : Int) ≥ 48)) = true then if (decide ((c6.toNat : Int) ≤ 57)) = true then some true else if ((c6.toNat : Int) == 45) = true then some true else some ((c6.toNat : Int) == 46) else if ((c6.toNat : Int) == 45) = true then some true else some ((c6.toNat : Int) == 46) else some false) fun (v17 : Bool) => if v17 = true then some (.go (IntKind.i64.wrap (v16 + 1))) else some (.ret v16)) fuel (IntKind.i64.wrap (v4.2.at_ + 1))) fun (v18 : Int) => bindO (cutL v4.2.s (IntKind.i64.wrap (v4.2.at_ + 1)) v18) fun (s2 : (List UInt8)) => bindO (bk_Value s2) fun (y2 : Int × Int) => if (y2.2 != 0) = true then some (y2.2, v4.2) else guardO (okLen (v4.2.b.Words.length + 1)) ( some (0, BlockParser.mk v4.2.s v18 (ApiBlock.mk v4.2.b.Skip (v4.2.b.Words ++ [ApiWord.mk (c5.toNat : Int) y2.1]) v4.2.b.Comment)))) fun (v19 : Int × BlockParser) => if (v19.1 != 0) = true then some (.ret (v19.1, v19.2)) else bindO (some ()) fun (v20 : Unit) => if (v19.2.at_ == (v19.2.s.length : Int)) = true then some (.ret (0, v19.2)) else bindO (bindO (bindO (some ()) fun (v21 : Unit) => if (v19.2.at_ == (v19.2.s.length : Int)) = true then some true else bindO (gt v19.2.s v19.2.at_) fun (c7 : UInt8) => some ((c7.toNat : Int) != 32)) fun (v22 : Bool) => if v22 = true then some (false, v19.2.at_) else some (true, IntKind.i64.wrap (v19.2.at_ + 1))) fun (v23 : Bool × Int) => if (!v23.1) = true then some (.ret (2, BlockParser.mk v19.2.s v23.2 v19.2.b)) else some (.go (true, BlockParser.mk v19.2.s v23.2 v19.2.b))) fuel (false, BlockParser.mk a0 v3.2 (ApiBlock.mk v3.1 [] []))) fun (v24 : Int × BlockParser) => if (v24.1 != 0) = true then some (ApiBlock.mk false [] [], v24.2.at_, v24.1) else some (v24.2.b, 0, 0)
theorem bk_Parse_spec {a0 : (List UInt8)} {y : ApiBlock × Int × Int} (h : bk_Parse a0 = some y) : Spec gP 69 [.d (.str a0)] (.tuple [.agg [.d (.bool y.1.Skip), .d (.list (List.map encApiWord y.1.Words)), .d (.str y.1.Comment)], .d (.int .i64 y.2.1), .d (.int .i64 y.2.2)]) := by
 refine spec_mir Tryz.func69 rfl (by kernel_rfl) (by kernel_rfl) (fun y : ApiBlock × Int × Int => .tuple [.agg [.d (.bool y.1.Skip), .d (.list (List.map encApiWord y.1.Words)), .d (.str y.1.Comment)], .d (.int .i64 y.2.1), .d (.int .i64 y.2.2)]) ?_ h
 unfold bk_Parse
 simp only [List.replicate, List.length, nS, nA, Tryz.ntmps69, SV]
 refine .sR fun e h=>?_
 simp only [seval,EME,zero_31]
 refine mU e (.seqK (.sR fun e h=>?_)) h
 simp only [seval,EME,und_9]
 refine mU e (.cond rfl (fun hb2=>?_) (fun hb2=>?_)) h
 refine .sR fun e h=>?_
 simp only [seval,EME,zero_31,pl_31,sz_31]
 refine mU e (.ret fun e h=>?_) h
 cases h
 simp only [seval,FME,Tryz.results69,ag_31,sz_31]
 refine .skip (Mir.toK (.sR fun e h=>?_))
 simp only [seval,EME,zero_174,pl_174,sz_174]
 refine mU e (.seqK (.seqK (.bind fun v24 h1=>.region fun e h=>?_))) h
 simp only [seval,EME]
 refine SpecS.inl Tryz.func117 rfl (by kernel_rfl) (by kernel_rfl) (fun v24 : Int × BlockParser=>.d (.int .i64 v24.1)) (fun v24=>⟨[[.d (.bool false),.nil,.d (.str [])],[.d (.str v24.2.s),.d (.int .i64 v24.2.at_),.d (.bool v24.2.b.Skip),.own 0 (List.map encApiWord v24.2.b.Words),.d (.str v24.2.b.Comment)]],[(77,v24.2.b.Words.length)]⟩) h1 rfl ?_ ?_
 simp only [List.replicate,List.length,nS,nA,Tryz.ntmps117,SV]
 refine .gh [.cell 1 3 77] rfl (.sR fun e h=>?_)
 simp only [seval,EME]
 refine mU e (.seqK (.bind fun v3 h2=>.region fun e h=>?_)) h
 simp only [seval,EME]
 refine SpecS.inl Tryz.func139 rfl (by kernel_rfl) (by kernel_rfl) (fun v3 : Bool × Int=>.d (.bool v3.1)) (fun v3=>⟨[[.d (.bool false),.nil,.d (.str [])],[.d (.str a0),.d (.int .i64 v3.2),.d (.bool false),.own 0 (List.map encApiWord []),.d (.str [])]],[(77,0)]⟩) h2 rfl ?_ ?_
 simp only [List.replicate,List.length,nS,nA,Tryz.ntmps139,SV]
 refine .sR fun e h=>?_
 simp only [seval,EME]
 refine mU e (.seqK (.seqK (Mir.joinO (fun v2 : Bool=>([.ptr 1 0,U,U,U,U,U,U,U,U,U,U,U,U,U,U,U,U,U,U,.d (.bool v2)] ++ us 7)) (fun v2=>⟨[[.d (.bool false),.nil,.d (.str [])],[.d (.str a0),.d (.int .i64 0),.d (.bool false),.own 0 (List.map encApiWord []),.d (.str [])]],[(77,0)]⟩) (fun _=>rfl) ?_ ?_))) h
 refine .bind fun v1 h3=>.ite (fun h4=>?_) (fun h4=>?_)
 refine Mir.regionA 1 [] ([.ptr 1 0,.d (.int .u8 47),U,U,.d (.bool false),.ptr 1 0,.d (.bool (0 == (a0.length : Int))),.d (.bool (0 == (a0.length : Int))),.skip,.skip,.skip,.skip,.skip,.skip,.skip,.skip,.skip,.skip,.skip,.d (.bool true)] ++ us 7) ⟨[[.d (.bool false),.nil,.d (.str [])],[.d (.str a0),.d (.int .i64 0),.d (.bool false),.own 0 (List.map encApiWord []),.d (.str [])]],[(77,0)]⟩ (by kernel_rfl) (fun e h=>?_) (fun e h=>?_)
 simp only [seval,EME,w_none,w_eq,SB,h4]
 refine regA.one (j := 1) (by kernel_rfl) rfl (regW.of ?_)
 simp only [seval,EME,w_none,w_eq,h4]
 refine SpecS.inl Tryz.func140 rfl (by kernel_rfl) (by kernel_rfl) (fun v1 : Unit=>.d (.bool (0 == (a0.length : Int)))) (fun v1=>⟨[[.d (.bool false),.nil,.d (.str [])],[.d (.str a0),.d (.int .i64 0),.d (.bool false),.own 0 (List.map encApiWord []),.d (.str [])]],[(77,0)]⟩) h3 rfl ?_ ?_
 simp only [List.replicate,List.length,nS,nA,Tryz.ntmps140,SV]
 refine .sR fun e h=>?_
 simp only [seval,EME]
 refine mU e (.seqK (.regionD [] (by kernel_rfl) fun e h=>?_)) h
 simp only [seval,EME,SB,fld_174_1,sz_3,ag_3,fld_174_0,sz_9,ag_9,und_9]
 refine mU e (.ret fun e h=>?_) h
 cases h
 simp only [seval,FME,Tryz.results140]
 simp only [seval,EME,w_none,w_eq,h4]
 refine regA.draw 2 [] (by kernel_rfl) ?_
 simp only [seval,EME,w_none,w_eq,SB,h4]
 exact ⟨rfl,rfl⟩
 cases h
 simp only [seval,FME,h4]
 refine .bind fun c1 q1=>?_
 replace q1 := gt_ok q1
 simp only [Int.reduceToNat,Int.reduceLT,Nat.sub_zero,dp0] at q1
 refine Mir.regionA 1 [] ([.ptr 1 0,.d (.int .u8 47),U,U,.d (.bool false),.ptr 1 0,.d (.bool (0 == (a0.length : Int))),.d (.bool (0 == (a0.length : Int))),.ptr 1 0,.ptr 1 0,.ptr 1 0,.d (.str a0),.ptr 1 0,.ptr 1 0,.ptr 1 1,.d (.int .i64 0),.d (.int .u8 (c1.toNat : Int)),.d (.int .u8 47),.d (.bool ((c1.toNat : Int) != 47)),.d (.bool ((c1.toNat : Int) != 47))] ++ us 7) ⟨[[.d (.bool false),.nil,.d (.str [])],[.d (.str a0),.d (.int .i64 0),.d (.bool false),.own 0 (List.map encApiWord []),.d (.str [])]],[(77,0)]⟩ (by kernel_rfl) (fun e h=>?_) (fun e h=>?_)
 simp only [seval,EME,w_none,w_eq,SB,h4]
 refine regA.one (j := 1) (by kernel_rfl) rfl (regW.of ?_)
 simp only [seval,EME,w_none,w_eq,h4]
 refine SpecS.inl Tryz.func140 rfl (by kernel_rfl) (by kernel_rfl) (fun v1 : Unit=>.d (.bool (0 == (a0.length : Int)))) (fun v1=>⟨[[.d (.bool false),.nil,.d (.str [])],[.d (.str a0),.d (.int .i64 0),.d (.bool false),.own 0 (List.map encApiWord []),.d (.str [])]],[(77,0)]⟩) h3 rfl ?_ ?_
 simp only [List.replicate,List.length,nS,nA,Tryz.ntmps140,SV]
 refine .sR fun e h=>?_
 simp only [seval,EME]
 refine mU e (.seqK (.regionD [] (by kernel_rfl) fun e h=>?_)) h
 simp only [seval,EME,SB,fld_174_1,sz_3,ag_3,fld_174_0,sz_9,ag_9,und_9]
 refine mU e (.ret fun e h=>?_) h
 cases h
 simp only [seval,FME,Tryz.results140]
 simp only [seval,EME,w_none,w_eq,h4]
 refine regA.draw 2 [] (by kernel_rfl) ?_
 simp only [seval,EME,w_none,w_eq,SB,fld_174_0,sz_9,ag_9,fld_174_1,sz_3,ag_3,und_9,q1,h4]
 exact ⟨rfl,rfl⟩
 cases h
 simp only [seval,FME,h4]
 intro v2
 refine Mir.toK (.cond rfl (fun h5=>?_) (fun h5=>?_))
 refine .sR fun e h=>?_
 simp only [seval,EME]
 refine mU e (.ret fun e h=>?_) h
 cases h
 simp only [seval,FME,Tryz.results139]
 refine .skip (Mir.toK (.sR fun e h=>?_))
 simp only [seval,EME,fld_174_1,sz_3,ag_3,(nr rfl : IntKind.i64.wrap 1 = 1)]
 refine mU e (.sR fun e h=>?_) h
 simp only [seval,EME]
 refine mU e (.ret fun e h=>?_) h
 cases h
 simp only [seval,FME,Tryz.results139]
 simp only [seval,EME,fld_174_2,sz_31,fld_31_0,sz_4]
 refine mU e (.sR fun e h=>?_) h
 simp only [seval,EME]
 refine mU e (.block (Mir.loop (fun v4 : Bool × BlockParser=>([.ptr 1 0,U,U,.d (.bool v4.1)] ++ us 34)) (fun v4=>⟨[[.d (.bool false),.nil,.d (.str [])],[.d (.str v4.2.s),.d (.int .i64 v4.2.at_),.d (.bool v4.2.b.Skip),.own 0 (List.map encApiWord v4.2.b.Words),.d (.str v4.2.b.Comment)]],[(77,v4.2.b.Words.length)]⟩) (fun _=>rfl) (by simp only [seval,FME]) (by simp only [seval,FME]) fun v4=>.seqK (.block (.seqK (.block (.seqK (.bind fun v5 h6=>.region fun e h=>?_))))))) h
 simp only [seval,EME]
 refine SpecS.inl Tryz.func140 rfl (by kernel_rfl) (by kernel_rfl) (fun v5 : Unit=>.d (.bool (v4.2.at_ == (v4.2.s.length : Int)))) (fun v5=>⟨[[.d (.bool false),.nil,.d (.str [])],[.d (.str v4.2.s),.d (.int .i64 v4.2.at_),.d (.bool v4.2.b.Skip),.own 0 (List.map encApiWord v4.2.b.Words),.d (.str v4.2.b.Comment)]],[(77,v4.2.b.Words.length)]⟩) h6 rfl ?_ ?_
 simp only [List.replicate,List.length,nS,nA,Tryz.ntmps140,SV]
 refine .sR fun e h=>?_
 simp only [seval,EME]
 refine mU e (.seqK (.regionD [] (by kernel_rfl) fun e h=>?_)) h
 simp only [seval,EME,SB,fld_174_1,sz_3,ag_3,fld_174_0,sz_9,ag_9,und_9]
 refine mU e (.ret fun e h=>?_) h
 cases h
 simp only [seval,FME,Tryz.results140]
 simp only [seval,EME]
 refine mU e (.cond rfl (fun h7=>?_) (fun h7=>?_)) h
 refine .seqK (.sR fun e h=>?_)
 simp only [seval,EME]
 refine mU e (.cond rfl (fun h8=>?_) (fun h8=>?_)) h
 refine .sR fun e h=>?_
 simp only [seval,EME]
 refine mU e (.ret fun e h=>?_) h
 cases h
 simp only [seval,FME,Tryz.results117]
 refine .skip (Mir.toK (.sR fun e h=>?_))
 simp only [seval,EME]
 refine mU e (.ret fun e h=>?_) h
 cases h
 simp only [seval,FME,Tryz.results117]
 refine .seqK (.bind fun c2 q2=>?_)
 replace q2 := gt_ok q2
 refine .regionD [] (by kernel_rfl) fun e h=>?_
 simp only [seval,EME,SB,fld_174_0,sz_9,ag_9,fld_174_1,sz_3,ag_3,und_9,q2]
 refine mU e (.cond rfl (fun h9=>?_) (fun h9=>?_)) h
 refine .seqK (.bind fun v15 h10=>.region fun e h=>?_)
 simp only [seval,EME]
 refine SpecS.inl Tryz.func141 rfl (by kernel_rfl) (by kernel_rfl) (fun v15 : Int × BlockParser=>.d (.int .i64 v15.1)) (fun v15=>⟨[[.d (.bool false),.nil,.d (.str [])],[.d (.str v15.2.s),.d (.int .i64 v15.2.at_),.d (.bool v15.2.b.Skip),.own 0 (List.map encApiWord v15.2.b.Words),.d (.str v15.2.b.Comment)]],[(77,v15.2.b.Words.length)]⟩) h10 rfl ?_ ?_
 simp only [List.replicate,List.length,nS,nA,Tryz.ntmps141,SV]
 refine .sR fun e h=>?_
 simp only [seval,EME]
 refine mU e (.sR fun e h=>?_) h
 simp only [seval,EME,fld_174_1,sz_3,ag_3]
 refine mU e (.sR fun e h=>?_) h
 simp only [seval,EME,fld_174_1,sz_3,ag_3]
 refine mU e (.seqK (Mir.joinO (fun v9 : Int=>([.ptr 1 0,U,U,.d (.int .i64 v4.2.at_)] ++ us 67)) (fun v9=>⟨[[.d (.bool false),.nil,.d (.str [])],[.d (.str v4.2.s),.d (.int .i64 v9),.d (.bool v4.2.b.Skip),.own 0 (List.map encApiWord v4.2.b.Words),.d (.str v4.2.b.Comment)]],[(77,v4.2.b.Words.length)]⟩) (fun _=>rfl) ?_ ?_)) h
 refine .block (Mir.loop (fun v6 : Int=>([.ptr 1 0,U,U,.d (.int .i64 v4.2.at_)] ++ us 67)) (fun v6=>⟨[[.d (.bool false),.nil,.d (.str [])],[.d (.str v4.2.s),.d (.int .i64 v6),.d (.bool v4.2.b.Skip),.own 0 (List.map encApiWord v4.2.b.Words),.d (.str v4.2.b.Comment)]],[(77,v4.2.b.Words.length)]⟩) (fun _=>rfl) (by simp only [seval,FME]) (by simp only [seval,FME]) fun v6=>.seqK (.seqK (Mir.joinO (fun v8 : Bool=>([.ptr 1 0,U,U,.d (.int .i64 v4.2.at_),U,U,U,U,U,U,U,U,U,U,U,U,U,U,U,U,U,U,U,U,U,U,U,U,U,U,.d (.bool v8)] ++ us 40)) (fun v8=>⟨[[.d (.bool false),.nil,.d (.str [])],[.d (.str v4.2.s),.d (.int .i64 v6),.d (.bool v4.2.b.Skip),.own 0 (List.map encApiWord v4.2.b.Words),.d (.str v4.2.b.Comment)]],[(77,v4.2.b.Words.length)]⟩) (fun _=>rfl) ?_ ?_)))
 refine .bind fun v7 h11=>.ite (fun h12=>?_) (fun h12=>?_)
 refine Mir.regionA 1 [] ([.ptr 1 0,U,U,.d (.int .i64 v4.2.at_),U,U,U,U,U,U,U,U,U,U,U,U,.ptr 1 0,.d (.bool (v6 == (v4.2.s.length : Int))),.d (.bool (!(v6 == (v4.2.s.length : Int)))),.d (.bool (!(v6 == (v4.2.s.length : Int)))),.skip,.skip,.skip,.skip,.skip,.skip,.skip,.skip,.skip,.skip,.d (.bool false)] ++ us 40) ⟨[[.d (.bool false),.nil,.d (.str [])],[.d (.str v4.2.s),.d (.int .i64 v6),.d (.bool v4.2.b.Skip),.own 0 (List.map encApiWord v4.2.b.Words),.d (.str v4.2.b.Comment)]],[(77,v4.2.b.Words.length)]⟩ (by kernel_rfl) (fun e h=>?_) (fun e h=>?_)
 simp only [seval,EME,w_none,w_eq,SB,h12]
 refine regA.one (j := 1) (by kernel_rfl) rfl (regW.of ?_)
 simp only [seval,EME,w_none,w_eq,h12]
 refine SpecS.inl Tryz.func140 rfl (by kernel_rfl) (by kernel_rfl) (fun v7 : Unit=>.d (.bool (v6 == (v4.2.s.length : Int)))) (fun v7=>⟨[[.d (.bool false),.nil,.d (.str [])],[.d (.str v4.2.s),.d (.int .i64 v6),.d (.bool v4.2.b.Skip),.own 0 (List.map encApiWord v4.2.b.Words),.d (.str v4.2.b.Comment)]],[(77,v4.2.b.Words.length)]⟩) h11 rfl ?_ ?_
 simp only [List.replicate,List.length,nS,nA,Tryz.ntmps140,SV]
 refine .sR fun e h=>?_
 simp only [seval,EME]
 refine mU e (.seqK (.regionD [] (by kernel_rfl) fun e h=>?_)) h
 simp only [seval,EME,SB,fld_174_1,sz_3,ag_3,fld_174_0,sz_9,ag_9,und_9]
 refine mU e (.ret fun e h=>?_) h
 cases h
 simp only [seval,FME,Tryz.results140]
 simp only [seval,EME,w_none,w_eq,h12]
 refine regA.draw 2 [] (by kernel_rfl) ?_
 simp only [seval,EME,w_none,w_eq,SB,h12]
 exact ⟨rfl,rfl⟩
 cases h
 simp only [seval,FME,h12]
 refine .bind fun c3 q3=>?_
 replace q3 := gt_ok q3
 refine .bind fun y1 h13=>Mir.regionA 1 [] ([.ptr 1 0,U,U,.d (.int .i64 v4.2.at_),U,U,U,U,U,U,U,U,U,U,U,U,.ptr 1 0,.d (.bool (v6 == (v4.2.s.length : Int))),.d (.bool (!(v6 == (v4.2.s.length : Int)))),.d (.bool (!(v6 == (v4.2.s.length : Int)))),.ptr 1 0,.ptr 1 0,.ptr 1 0,.d (.str v4.2.s),.ptr 1 0,.ptr 1 0,.ptr 1 1,.d (.int .i64 v6),.d (.int .u8 (c3.toNat : Int)),.d (.bool y1),.d (.bool y1)] ++ us 40) ⟨[[.d (.bool false),.nil,.d (.str [])],[.d (.str v4.2.s),.d (.int .i64 v6),.d (.bool v4.2.b.Skip),.own 0 (List.map encApiWord v4.2.b.Words),.d (.str v4.2.b.Comment)]],[(77,v4.2.b.Words.length)]⟩ (by kernel_rfl) (fun e h=>?_) (fun e h=>?_)
 simp only [seval,EME,w_none,w_eq,SB,h12]
 refine regA.one (j := 1) (by kernel_rfl) rfl (regW.of ?_)
 simp only [seval,EME,w_none,w_eq,h12]
 refine SpecS.inl Tryz.func140 rfl (by kernel_rfl) (by kernel_rfl) (fun v7 : Unit=>.d (.bool (v6 == (v4.2.s.length : Int)))) (fun v7=>⟨[[.d (.bool false),.nil,.d (.str [])],[.d (.str v4.2.s),.d (.int .i64 v6),.d (.bool v4.2.b.Skip),.own 0 (List.map encApiWord v4.2.b.Words),.d (.str v4.2.b.Comment)]],[(77,v4.2.b.Words.length)]⟩) h11 rfl ?_ ?_
 simp only [List.replicate,List.length,nS,nA,Tryz.ntmps140,SV]
 refine .sR fun e h=>?_
 simp only [seval,EME]
 refine mU e (.seqK (.regionD [] (by kernel_rfl) fun e h=>?_)) h
 simp only [seval,EME,SB,fld_174_1,sz_3,ag_3,fld_174_0,sz_9,ag_9,und_9]
 refine mU e (.ret fun e h=>?_) h
 cases h
 simp only [seval,FME,Tryz.results140]
 simp only [seval,EME,w_none,w_eq,h12]
 refine regA.draw 2 [] (by kernel_rfl) ?_
 simp only [seval,EME,w_none,w_eq,SB,fld_174_0,sz_9,ag_9,fld_174_1,sz_3,ag_3,und_9,q3,h12]
 refine Spec.by (bk_printable_spec h13) (by simp only [seval,FME,h12]) ?_
 simp only [seval,EME,w_none,w_eq,SB,h12]
 exact ⟨rfl,rfl⟩
 cases h
 simp only [seval,FME,h12]
 intro v8
 refine Mir.toK (.cond rfl (fun h14=>?_) (fun h14=>?_))
 refine .skip (Mir.toK (.block (.region fun e h=>?_)))
 simp only [seval,EME,fld_174_1,sz_3,ag_3]
 cases h
 simp only [seval,FME,Tryz.results141]
 refine .exit fun e h=>?_
 cases h
 simp only [seval,FME,Tryz.results141]
 intro v9
 refine Mir.toK (.seqK (.bind fun s1 q4=>?_))
 replace q4 := cutL_ok q4
 refine .regionD [] (by kernel_rfl) fun e h=>?_
 simp only [seval,EME,SB,fld_174_0,sz_9,ag_9,fld_174_1,sz_3,ag_3,und_9,q4,Nat.le_refl,and_true,true_and,dm,tm]
 refine mU e (.seqK (.sR fun e h=>?_)) h
 simp only [seval,EME,und_9]
 refine mU e (.cond rfl (fun h15=>?_) (fun h15=>?_)) h
 refine .sR fun e h=>?_
 simp only [seval,EME,fld_174_1,sz_3]
 refine mU e (.sR fun e h=>?_) h
 simp only [seval,EME]
 refine mU e (.ret fun e h=>?_) h
 cases h
 simp only [seval,FME,Tryz.results141]
 refine .skip (Mir.toK (.seqK (.seqK (Mir.joinO (fun v13 : Bool × Int=>([.ptr 1 0,U,U,U,.d (.str s1),U,U,U,U,U,U,U,U,U,U,U,U,U,U,U,U,U,U,U,U,U,U,U,U,U,U,U,U,U,U,U,U,U,U,U,U,U,U,U,U,U,U,U,U,U,U,U,U,U,U,U,U,U,U,U,U,U,.d (.bool v13.1)] ++ us 8)) (fun v13=>⟨[[.d (.bool false),.nil,.d (.str [])],[.d (.str v4.2.s),.d (.int .i64 v13.2),.d (.bool v4.2.b.Skip),.own 0 (List.map encApiWord v4.2.b.Words),.d (.str v4.2.b.Comment)]],[(77,v4.2.b.Words.length)]⟩) (fun _=>rfl) ?_ ?_))))
 refine .ite (fun h16=>?_) (fun h16=>?_)
 refine .region fun e h=>?_
 simp only [seval,EME,h16]
 cases h
 simp only [seval,FME,h16]
 refine .bind fun v12 h17=>.region fun e h=>?_
 simp only [seval,EME,h16]
 refine SpecS.inl Tryz.func139 rfl (by kernel_rfl) (by kernel_rfl) (fun v12 : Bool × Int=>.d (.bool v12.1)) (fun v12=>⟨[[.d (.bool false),.nil,.d (.str [])],[.d (.str v4.2.s),.d (.int .i64 v12.2),.d (.bool v4.2.b.Skip),.own 0 (List.map encApiWord v4.2.b.Words),.d (.str v4.2.b.Comment)]],[(77,v4.2.b.Words.length)]⟩) h17 rfl ?_ ?_
 simp only [List.replicate,List.length,nS,nA,Tryz.ntmps139,SV]
 refine .sR fun e h=>?_
 simp only [seval,EME]
 refine mU e (.seqK (.seqK (Mir.joinO (fun v11 : Bool=>([.ptr 1 0,U,U,U,U,U,U,U,U,U,U,U,U,U,U,U,U,U,U,.d (.bool v11)] ++ us 7)) (fun v11=>⟨[[.d (.bool false),.nil,.d (.str [])],[.d (.str v4.2.s),.d (.int .i64 v9),.d (.bool v4.2.b.Skip),.own 0 (List.map encApiWord v4.2.b.Words),.d (.str v4.2.b.Comment)]],[(77,v4.2.b.Words.length)]⟩) (fun _=>rfl) ?_ ?_))) h
 refine .bind fun v10 h18=>.ite (fun h19=>?_) (fun h19=>?_)
 refine Mir.regionA 1 [] ([.ptr 1 0,.d (.int .u8 41),U,U,.d (.bool false),.ptr 1 0,.d (.bool (v9 == (v4.2.s.length : Int))),.d (.bool (v9 == (v4.2.s.length : Int))),.skip,.skip,.skip,.skip,.skip,.skip,.skip,.skip,.skip,.skip,.skip,.d (.bool true)] ++ us 7) ⟨[[.d (.bool false),.nil,.d (.str [])],[.d (.str v4.2.s),.d (.int .i64 v9),.d (.bool v4.2.b.Skip),.own 0 (List.map encApiWord v4.2.b.Words),.d (.str v4.2.b.Comment)]],[(77,v4.2.b.Words.length)]⟩ (by kernel_rfl) (fun e h=>?_) (fun e h=>?_)
 simp only [seval,EME,w_none,w_eq,SB,h19]
 refine regA.one (j := 1) (by kernel_rfl) rfl (regW.of ?_)
 simp only [seval,EME,w_none,w_eq,h19]
 refine SpecS.inl Tryz.func140 rfl (by kernel_rfl) (by kernel_rfl) (fun v10 : Unit=>.d (.bool (v9 == (v4.2.s.length : Int)))) (fun v10=>⟨[[.d (.bool false),.nil,.d (.str [])],[.d (.str v4.2.s),.d (.int .i64 v9),.d (.bool v4.2.b.Skip),.own 0 (List.map encApiWord v4.2.b.Words),.d (.str v4.2.b.Comment)]],[(77,v4.2.b.Words.length)]⟩) h18 rfl ?_ ?_
 simp only [List.replicate,List.length,nS,nA,Tryz.ntmps140,SV]
 refine .sR fun e h=>?_
 simp only [seval,EME]
 refine mU e (.seqK (.regionD [] (by kernel_rfl) fun e h=>?_)) h
 simp only [seval,EME,SB,fld_174_1,sz_3,ag_3,fld_174_0,sz_9,ag_9,und_9]
 refine mU e (.ret fun e h=>?_) h
 cases h
 simp only [seval,FME,Tryz.results140]
 simp only [seval,EME,w_none,w_eq,h19]
 refine regA.draw 2 [] (by kernel_rfl) ?_
 simp only [seval,EME,w_none,w_eq,SB,h19]
 exact ⟨rfl,rfl⟩
 cases h
 simp only [seval,FME,h19]
 refine .bind fun c4 q5=>?_
 replace q5 := gt_ok q5
 refine Mir.regionA 1 [] ([.ptr 1 0,.d (.int .u8 41),U,U,.d (.bool false),.ptr 1 0,.d (.bool (v9 == (v4.2.s.length : Int))),.d (.bool (v9 == (v4.2.s.length : Int))),.ptr 1 0,.ptr 1 0,.ptr 1 0,.d (.str v4.2.s),.ptr 1 0,.ptr 1 0,.ptr 1 1,.d (.int .i64 v9),.d (.int .u8 (c4.toNat : Int)),.d (.int .u8 41),.d (.bool ((c4.toNat : Int) != 41)),.d (.bool ((c4.toNat : Int) != 41))] ++ us 7) ⟨[[.d (.bool false),.nil,.d (.str [])],[.d (.str v4.2.s),.d (.int .i64 v9),.d (.bool v4.2.b.Skip),.own 0 (List.map encApiWord v4.2.b.Words),.d (.str v4.2.b.Comment)]],[(77,v4.2.b.Words.length)]⟩ (by kernel_rfl) (fun e h=>?_) (fun e h=>?_)
 simp only [seval,EME,w_none,w_eq,SB,h19]
 refine regA.one (j := 1) (by kernel_rfl) rfl (regW.of ?_)
 simp only [seval,EME,w_none,w_eq,h19]
 refine SpecS.inl Tryz.func140 rfl (by kernel_rfl) (by kernel_rfl) (fun v10 : Unit=>.d (.bool (v9 == (v4.2.s.length : Int)))) (fun v10=>⟨[[.d (.bool false),.nil,.d (.str [])],[.d (.str v4.2.s),.d (.int .i64 v9),.d (.bool v4.2.b.Skip),.own 0 (List.map encApiWord v4.2.b.Words),.d (.str v4.2.b.Comment)]],[(77,v4.2.b.Words.length)]⟩) h18 rfl ?_ ?_
 simp only [List.replicate,List.length,nS,nA,Tryz.ntmps140,SV]
 refine .sR fun e h=>?_
 simp only [seval,EME]
 refine mU e (.seqK (.regionD [] (by kernel_rfl) fun e h=>?_)) h
 simp only [seval,EME,SB,fld_174_1,sz_3,ag_3,fld_174_0,sz_9,ag_9,und_9]
 refine mU e (.ret fun e h=>?_) h
 cases h
 simp only [seval,FME,Tryz.results140]
 simp only [seval,EME,w_none,w_eq,h19]
 refine regA.draw 2 [] (by kernel_rfl) ?_
 simp only [seval,EME,w_none,w_eq,SB,fld_174_0,sz_9,ag_9,fld_174_1,sz_3,ag_3,und_9,q5,h19]
 exact ⟨rfl,rfl⟩
 cases h
 simp only [seval,FME,h19]
 intro v11
 refine Mir.toK (.cond rfl (fun h20=>?_) (fun h20=>?_))
 refine .sR fun e h=>?_
 simp only [seval,EME]
 refine mU e (.ret fun e h=>?_) h
 cases h
 simp only [seval,FME,Tryz.results139]
 refine .skip (Mir.toK (.sR fun e h=>?_))
 simp only [seval,EME,fld_174_1,sz_3,ag_3]
 refine mU e (.sR fun e h=>?_) h
 simp only [seval,EME]
 refine mU e (.ret fun e h=>?_) h
 cases h
 simp only [seval,FME,Tryz.results139]
 simp only [seval,EME,h16]
 cases h
 simp only [seval,FME,h16]
 intro v13
 refine Mir.toK (.cond rfl (fun h21=>?_) (fun h21=>?_))
 refine .sR fun e h=>?_
 simp only [seval,EME]
 refine mU e (.ret fun e h=>?_) h
 cases h
 simp only [seval,FME,Tryz.results141]
 refine .skip (Mir.toK (.sR fun e h=>?_))
 simp only [seval,EME,fld_174_2,sz_31,fld_31_2,sz_9]
 refine mU e (.seqK (.seqK (.bind fun v14 h22=>.region fun e h=>?_))) h
 simp only [seval,EME]
 refine SpecS.inl Tryz.func140 rfl (by kernel_rfl) (by kernel_rfl) (fun v14 : Unit=>.d (.bool (v13.2 == (v4.2.s.length : Int)))) (fun v14=>⟨[[.d (.bool false),.nil,.d (.str [])],[.d (.str v4.2.s),.d (.int .i64 v13.2),.d (.bool v4.2.b.Skip),.own 0 (List.map encApiWord v4.2.b.Words),.d (.str s1)]],[(77,v4.2.b.Words.length)]⟩) h22 rfl ?_ ?_
 simp only [List.replicate,List.length,nS,nA,Tryz.ntmps140,SV]
 refine .sR fun e h=>?_
 simp only [seval,EME]
 refine mU e (.seqK (.regionD [] (by kernel_rfl) fun e h=>?_)) h
 simp only [seval,EME,SB,fld_174_1,sz_3,ag_3,fld_174_0,sz_9,ag_9,und_9]
 refine mU e (.ret fun e h=>?_) h
 cases h
 simp only [seval,FME,Tryz.results140]
 simp only [seval,EME]
 refine mU e (.cond rfl (fun h23=>?_) (fun h23=>?_)) h
 refine .sR fun e h=>?_
 simp only [seval,EME]
 refine mU e (.ret fun e h=>?_) h
 cases h
 simp only [seval,FME,Tryz.results141]
 refine .skip (Mir.toK (.sR fun e h=>?_))
 simp only [seval,EME]
 refine mU e (.ret fun e h=>?_) h
 cases h
 simp only [seval,FME,Tryz.results141]
 simp only [seval,EME]
 refine mU e (.ret fun e h=>?_) h
 cases h
 simp only [seval,FME,Tryz.results117]
 refine .skip (Mir.toB (Mir.toK (.seqK (.seqK (.bind fun v19 h24=>.region fun e h=>?_)))))
 simp only [seval,EME]
 refine SpecS.inl Tryz.func142 rfl (by kernel_rfl) (by kernel_rfl) (fun v19 : Int × BlockParser=>.d (.int .i64 v19.1)) (fun v19=>⟨[[.d (.bool false),.nil,.d (.str [])],[.d (.str v19.2.s),.d (.int .i64 v19.2.at_),.d (.bool v19.2.b.Skip),.own 0 (List.map encApiWord v19.2.b.Words),.d (.str v19.2.b.Comment)]],[(77,v19.2.b.Words.length)]⟩) h24 rfl ?_ ?_
 simp only [List.replicate,List.length,nS,nA,Tryz.ntmps142,SV]
 refine .sR fun e h=>?_
 simp only [seval,EME]
 refine mU e (.seqK (.bind fun c5 q6=>?_)) h
 replace q6 := gt_ok q6
 refine .regionD [] (by kernel_rfl) fun e h=>?_
 simp only [seval,EME,SB,fld_174_0,sz_9,ag_9,fld_174_1,sz_3,ag_3,und_9,q6]
 refine mU e (.seqK (.seqK (.joinV ([.ptr 1 0,U,U,.d (.int .u8 (c5.toNat : Int)),U,U,U,U,U,U,U,U,U,U,U,U,U,U,U,U,U,.d (.bool ((decide ((c5.toNat : Int) < 65)) || (decide ((c5.toNat : Int) > 90))))] ++ us 93) ⟨[[.d (.bool false),.nil,.d (.str [])],[.d (.str v4.2.s),.d (.int .i64 v4.2.at_),.d (.bool v4.2.b.Skip),.own 0 (List.map encApiWord v4.2.b.Words),.d (.str v4.2.b.Comment)]],[(77,v4.2.b.Words.length)]⟩ rfl ?_ ?_))) h
 refine SWs.region ?_
 rcases Bool.eq_false_or_eq_true (decide ((c5.toNat : Int) < 65)) with h25 | h25
 simp only [seval,EME,SL,PB,h25]
 simp only [seval,EME,SL,PB,h25]
 refine Mir.toK (.cond rfl (fun h26=>?_) (fun h26=>?_))
 refine .sR fun e h=>?_
 simp only [seval,EME]
 refine mU e (.ret fun e h=>?_) h
 cases h
 simp only [seval,FME,Tryz.results142]
 refine .skip (Mir.toK (.seqK (.sR fun e h=>?_)))
 simp only [seval,EME,fld_174_2,sz_31,fld_31_1,sz_29,ag_29,und_29]
 refine mU e (.cond rfl (fun h27=>?_) (fun h27=>?_)) h
 refine .sR fun e h=>?_
 simp only [seval,EME]
 refine mU e (.ret fun e h=>?_) h
 cases h
 simp only [seval,FME,Tryz.results142]
 refine .skip (Mir.toK (.sR fun e h=>?_))
 simp only [seval,EME,fld_174_1,sz_3,ag_3]
 refine mU e (.seqK (Mir.joinO (fun v18 : Int=>([.ptr 1 0,U,U,.d (.int .u8 (c5.toNat : Int)),.d (.int .i64 v18)] ++ us 110)) (fun v18=>⟨[[.d (.bool false),.nil,.d (.str [])],[.d (.str v4.2.s),.d (.int .i64 v4.2.at_),.d (.bool v4.2.b.Skip),.own 0 (List.map encApiWord v4.2.b.Words),.d (.str v4.2.b.Comment)]],[(77,v4.2.b.Words.length)]⟩) (fun _=>rfl) ?_ ?_)) h
 refine .block (Mir.loop (fun v16 : Int=>([.ptr 1 0,U,U,.d (.int .u8 (c5.toNat : Int)),.d (.int .i64 v16)] ++ us 110)) (fun v16=>⟨[[.d (.bool false),.nil,.d (.str [])],[.d (.str v4.2.s),.d (.int .i64 v4.2.at_),.d (.bool v4.2.b.Skip),.own 0 (List.map encApiWord v4.2.b.Words),.d (.str v4.2.b.Comment)]],[(77,v4.2.b.Words.length)]⟩) (fun _=>rfl) (by simp only [seval,FME]) (by simp only [seval,FME]) fun v16=>.seqK (.seqK (Mir.joinO (fun v17 : Bool=>([.ptr 1 0,U,U,.d (.int .u8 (c5.toNat : Int)),.d (.int .i64 v16),U,U,U,U,U,U,U,U,U,U,U,U,U,U,U,U,U,U,U,U,U,U,U,U,U,U,U,U,U,U,U,U,U,U,U,U,U,U,U,U,U,U,U,U,U,U,U,U,U,U,U,U,U,U,U,U,U,U,U,U,U,U,U,U,U,U,U,U,U,U,U,.d (.bool v17)] ++ us 38)) (fun v17=>⟨[[.d (.bool false),.nil,.d (.str [])],[.d (.str v4.2.s),.d (.int .i64 v4.2.at_),.d (.bool v4.2.b.Skip),.own 0 (List.map encApiWord v4.2.b.Words),.d (.str v4.2.b.Comment)]],[(77,v4.2.b.Words.length)]⟩) (fun _=>rfl) ?_ ?_)))
 refine .ite (fun h28=>?_) (fun h28=>?_)
 refine .bind fun c6 q7=>?_
 replace q7 := gt_ok q7
 refine .ite (fun h29=>?_) (fun h29=>?_)
 refine .ite (fun h30=>?_) (fun h30=>?_)
 refine .region fun e h=>?_
 simp only [seval,EME,fld_174_0,sz_9,ag_9,und_9,q7,h28,h29,h30]
 cases h
 simp only [seval,FME,h28,h29,h30]
 refine .ite (fun h31=>?_) (fun h31=>?_)
 refine .region fun e h=>?_
 simp only [seval,EME,fld_174_0,sz_9,ag_9,und_9,q7,h28,h29,h30,h31]
 cases h
 simp only [seval,FME,h28,h29,h30,h31]
 refine .region fun e h=>?_
 simp only [seval,EME,fld_174_0,sz_9,ag_9,und_9,q7,h28,h29,h30,h31]
 cases h
 simp only [seval,FME,h28,h29,h30,h31]
 refine .ite (fun h32=>?_) (fun h32=>?_)
 refine .region fun e h=>?_
 simp only [seval,EME,fld_174_0,sz_9,ag_9,und_9,q7,h28,h29,h32]
 cases h
 simp only [seval,FME,h28,h29,h32]
 refine .region fun e h=>?_
 simp only [seval,EME,fld_174_0,sz_9,ag_9,und_9,q7,h28,h29,h32]
 cases h
 simp only [seval,FME,h28,h29,h32]
 refine .region fun e h=>?_
 simp only [seval,EME,fld_174_0,sz_9,ag_9,und_9,h28]
 cases h
 simp only [seval,FME,h28]
 intro v17
 refine Mir.toK (.cond rfl (fun h33=>?_) (fun h33=>?_))
 refine .skip (Mir.toK (.block (.region fun e h=>?_)))
 simp only [seval,EME]
 cases h
 simp only [seval,FME,Tryz.results142]
 refine .exit fun e h=>?_
 cases h
 simp only [seval,FME,Tryz.results142]
 intro v18
 refine Mir.toK (.seqK (.bind fun s2 q8=>?_))
 replace q8 := cutL_ok q8
 refine .bind fun y2 h34=>.regionD [] (by kernel_rfl) fun e h=>?_
 simp only [seval,EME,SB,fld_174_0,sz_9,ag_9,fld_174_1,sz_3,ag_3,und_9,q8,Nat.le_refl,and_true,true_and,dm,tm]
 refine Spec.by (bk_Value_spec h34) (by simp only [seval,FME]) ?_
 simp only [seval,EME,SB]
 refine mU e (.seqK (.sR fun e h=>?_)) h
 simp only [seval,EME]
 refine mU e (.cond rfl (fun h35=>?_) (fun h35=>?_)) h
 refine .sR fun e h=>?_
 simp only [seval,EME]
 refine mU e (.ret fun e h=>?_) h
 cases h
 simp only [seval,FME,Tryz.results142]
 refine .skip (Mir.toK (.seqK (.guard fun q9=>.region fun e h=>?_)))
 simp only [seval,EME,fld_174_2,sz_31,fld_31_1,sz_29,ag_29,zero_77,pl_77,und_29,sz_77,(oL 2),app_29,al_ApiWord,q9]
 refine mU e (.sR fun e h=>?_) h
 simp only [seval,EME,fld_174_1,sz_3]
 refine mU e (.sR fun e h=>?_) h
 simp only [seval,EME]
 refine mU e (.ret fun e h=>?_) h
 cases h
 simp only [seval,FME,Tryz.results142]
 simp only [seval,EME]
 refine mU e (.sR fun e h=>?_) h
 simp only [seval,EME]
 refine mU e (.cond rfl (fun h36=>?_) (fun h36=>?_)) h
 refine .sR fun e h=>?_
 simp only [seval,EME]
 refine mU e (.ret fun e h=>?_) h
 cases h
 simp only [seval,FME,Tryz.results117]
 refine .skip (Mir.toK (.seqK (.seqK (.bind fun v20 h37=>.region fun e h=>?_))))
 simp only [seval,EME]
 refine SpecS.inl Tryz.func140 rfl (by kernel_rfl) (by kernel_rfl) (fun v20 : Unit=>.d (.bool (v19.2.at_ == (v19.2.s.length : Int)))) (fun v20=>⟨[[.d (.bool false),.nil,.d (.str [])],[.d (.str v19.2.s),.d (.int .i64 v19.2.at_),.d (.bool v19.2.b.Skip),.own 0 (List.map encApiWord v19.2.b.Words),.d (.str v19.2.b.Comment)]],[(77,v19.2.b.Words.length)]⟩) h37 rfl ?_ ?_
 simp only [List.replicate,List.length,nS,nA,Tryz.ntmps140,SV]
 refine .sR fun e h=>?_
 simp only [seval,EME]
 refine mU e (.seqK (.regionD [] (by kernel_rfl) fun e h=>?_)) h
 simp only [seval,EME,SB,fld_174_1,sz_3,ag_3,fld_174_0,sz_9,ag_9,und_9]
 refine mU e (.ret fun e h=>?_) h
 cases h
 simp only [seval,FME,Tryz.results140]
 simp only [seval,EME]
 refine mU e (.cond rfl (fun h38=>?_) (fun h38=>?_)) h
 refine .sR fun e h=>?_
 simp only [seval,EME]
 refine mU e (.ret fun e h=>?_) h
 cases h
 simp only [seval,FME,Tryz.results117]
 refine .skip (Mir.toK (.seqK (.bind fun v23 h39=>.region fun e h=>?_)))
 simp only [seval,EME]
 refine SpecS.inl Tryz.func139 rfl (by kernel_rfl) (by kernel_rfl) (fun v23 : Bool × Int=>.d (.bool v23.1)) (fun v23=>⟨[[.d (.bool false),.nil,.d (.str [])],[.d (.str v19.2.s),.d (.int .i64 v23.2),.d (.bool v19.2.b.Skip),.own 0 (List.map encApiWord v19.2.b.Words),.d (.str v19.2.b.Comment)]],[(77,v19.2.b.Words.length)]⟩) h39 rfl ?_ ?_
 simp only [List.replicate,List.length,nS,nA,Tryz.ntmps139,SV]
 refine .sR fun e h=>?_
 simp only [seval,EME]
 refine mU e (.seqK (.seqK (Mir.joinO (fun v22 : Bool=>([.ptr 1 0,U,U,U,U,U,U,U,U,U,U,U,U,U,U,U,U,U,U,.d (.bool v22)] ++ us 7)) (fun v22=>⟨[[.d (.bool false),.nil,.d (.str [])],[.d (.str v19.2.s),.d (.int .i64 v19.2.at_),.d (.bool v19.2.b.Skip),.own 0 (List.map encApiWord v19.2.b.Words),.d (.str v19.2.b.Comment)]],[(77,v19.2.b.Words.length)]⟩) (fun _=>rfl) ?_ ?_))) h
 refine .bind fun v21 h40=>.ite (fun h41=>?_) (fun h41=>?_)
 refine Mir.regionA 1 [] ([.ptr 1 0,.d (.int .u8 32),U,U,.d (.bool false),.ptr 1 0,.d (.bool (v19.2.at_ == (v19.2.s.length : Int))),.d (.bool (v19.2.at_ == (v19.2.s.length : Int))),.skip,.skip,.skip,.skip,.skip,.skip,.skip,.skip,.skip,.skip,.skip,.d (.bool true)] ++ us 7) ⟨[[.d (.bool false),.nil,.d (.str [])],[.d (.str v19.2.s),.d (.int .i64 v19.2.at_),.d (.bool v19.2.b.Skip),.own 0 (List.map encApiWord v19.2.b.Words),.d (.str v19.2.b.Comment)]],[(77,v19.2.b.Words.length)]⟩ (by kernel_rfl) (fun e h=>?_) (fun e h=>?_)
 simp only [seval,EME,w_none,w_eq,SB,h41]
 refine regA.one (j := 1) (by kernel_rfl) rfl (regW.of ?_)
 simp only [seval,EME,w_none,w_eq,h41]
 refine SpecS.inl Tryz.func140 rfl (by kernel_rfl) (by kernel_rfl) (fun v21 : Unit=>.d (.bool (v19.2.at_ == (v19.2.s.length : Int)))) (fun v21=>⟨[[.d (.bool false),.nil,.d (.str [])],[.d (.str v19.2.s),.d (.int .i64 v19.2.at_),.d (.bool v19.2.b.Skip),.own 0 (List.map encApiWord v19.2.b.Words),.d (.str v19.2.b.Comment)]],[(77,v19.2.b.Words.length)]⟩) h40 rfl ?_ ?_
 simp only [List.replicate,List.length,nS,nA,Tryz.ntmps140,SV]
 refine .sR fun e h=>?_
 simp only [seval,EME]
 refine mU e (.seqK (.regionD [] (by kernel_rfl) fun e h=>?_)) h
 simp only [seval,EME,SB,fld_174_1,sz_3,ag_3,fld_174_0,sz_9,ag_9,und_9]
 refine mU e (.ret fun e h=>?_) h
 cases h
 simp only [seval,FME,Tryz.results140]
 simp only [seval,EME,w_none,w_eq,h41]
 refine regA.draw 2 [] (by kernel_rfl) ?_
 simp only [seval,EME,w_none,w_eq,SB,h41]
 exact ⟨rfl,rfl⟩
 cases h
 simp only [seval,FME,h41]
 refine .bind fun c7 q10=>?_
 replace q10 := gt_ok q10
 refine Mir.regionA 1 [] ([.ptr 1 0,.d (.int .u8 32),U,U,.d (.bool false),.ptr 1 0,.d (.bool (v19.2.at_ == (v19.2.s.length : Int))),.d (.bool (v19.2.at_ == (v19.2.s.length : Int))),.ptr 1 0,.ptr 1 0,.ptr 1 0,.d (.str v19.2.s),.ptr 1 0,.ptr 1 0,.ptr 1 1,.d (.int .i64 v19.2.at_),.d (.int .u8 (c7.toNat : Int)),.d (.int .u8 32),.d (.bool ((c7.toNat : Int) != 32)),.d (.bool ((c7.toNat : Int) != 32))] ++ us 7) ⟨[[.d (.bool false),.nil,.d (.str [])],[.d (.str v19.2.s),.d (.int .i64 v19.2.at_),.d (.bool v19.2.b.Skip),.own 0 (List.map encApiWord v19.2.b.Words),.d (.str v19.2.b.Comment)]],[(77,v19.2.b.Words.length)]⟩ (by kernel_rfl) (fun e h=>?_) (fun e h=>?_)
 simp only [seval,EME,w_none,w_eq,SB,h41]
 refine regA.one (j := 1) (by kernel_rfl) rfl (regW.of ?_)
 simp only [seval,EME,w_none,w_eq,h41]
 refine SpecS.inl Tryz.func140 rfl (by kernel_rfl) (by kernel_rfl) (fun v21 : Unit=>.d (.bool (v19.2.at_ == (v19.2.s.length : Int)))) (fun v21=>⟨[[.d (.bool false),.nil,.d (.str [])],[.d (.str v19.2.s),.d (.int .i64 v19.2.at_),.d (.bool v19.2.b.Skip),.own 0 (List.map encApiWord v19.2.b.Words),.d (.str v19.2.b.Comment)]],[(77,v19.2.b.Words.length)]⟩) h40 rfl ?_ ?_
 simp only [List.replicate,List.length,nS,nA,Tryz.ntmps140,SV]
 refine .sR fun e h=>?_
 simp only [seval,EME]
 refine mU e (.seqK (.regionD [] (by kernel_rfl) fun e h=>?_)) h
 simp only [seval,EME,SB,fld_174_1,sz_3,ag_3,fld_174_0,sz_9,ag_9,und_9]
 refine mU e (.ret fun e h=>?_) h
 cases h
 simp only [seval,FME,Tryz.results140]
 simp only [seval,EME,w_none,w_eq,h41]
 refine regA.draw 2 [] (by kernel_rfl) ?_
 simp only [seval,EME,w_none,w_eq,SB,fld_174_0,sz_9,ag_9,fld_174_1,sz_3,ag_3,und_9,q10,h41]
 exact ⟨rfl,rfl⟩
 cases h
 simp only [seval,FME,h41]
 intro v22
 refine Mir.toK (.cond rfl (fun h42=>?_) (fun h42=>?_))
 refine .sR fun e h=>?_
 simp only [seval,EME]
 refine mU e (.ret fun e h=>?_) h
 cases h
 simp only [seval,FME,Tryz.results139]
 refine .skip (Mir.toK (.sR fun e h=>?_))
 simp only [seval,EME,fld_174_1,sz_3,ag_3]
 refine mU e (.sR fun e h=>?_) h
 simp only [seval,EME]
 refine mU e (.ret fun e h=>?_) h
 cases h
 simp only [seval,FME,Tryz.results139]
 simp only [seval,EME]
 refine mU e (.cond rfl (fun h43=>?_) (fun h43=>?_)) h
 refine .sR fun e h=>?_
 simp only [seval,EME]
 refine mU e (.ret fun e h=>?_) h
 cases h
 simp only [seval,FME,Tryz.results117]
 refine .skip (Mir.toB (Mir.toK (.region fun e h=>?_)))
 simp only [seval,EME]
 cases h
 simp only [seval,FME,Tryz.results117]
 simp only [seval,EME]
 refine mU e (.sR fun e h=>?_) h
 simp only [seval,EME]
 refine mU e (.cond rfl (fun h44=>?_) (fun h44=>?_)) h
 refine .seqK (.regionD [(17,2)] (by kernel_rfl) fun e h=>?_)
 simp only [seval,EME,SB,zero_31,pl_31,fld_174_1,sz_3,ag_3,sz_31]
 refine mU e (.ret fun e h=>?_) h
 cases h
 simp only [seval,FME,Tryz.results69,ag_31,sz_31]
 refine .skip (Mir.toK (.sR fun e h=>?_))
 simp only [seval,EME,fld_174_2,sz_31,ag_31]
 refine mU e (.ret fun e h=>?_) h
 cases h
 simp only [seval,FME,Tryz.results69,ag_31,sz_31]
def bk_Program (a0 : (List UInt8)) : Option ((List ApiBlock) × Int × Int) := bindO (if (decide ((a0.length : Int) > 65536)) = true then some true else bindO (strings_Count a0 [10]) fun (y1 : Int) => if (decide (y1 > 20000)) = true then some true else bindO (strings_Count a0 [10]) fun (y2 : Int) => if (y2 == 20000) = true then bindO (strings_HasSuffix a0 [10]) fun (y3 : Bool) => some (!y3) else some false) fun (v1 : Bool) => if v1 = true then some ([], 0, 3) else bindX (loopX (fun (v2 : (List UInt8) × (List ApiBlock) × Int) => if (!(v2.1 == [])) = true then bindO (strings_Cut v2.1 [10]) fun (y4 : (List UInt8) × (List UInt8) × Bool) => bindO (bk_Parse y4.1) fun (y5 : ApiBlock × Int × Int) => bindO (if (!y4.2.2) = true then some 2 else some y5.2.2) fun (v3 : Int) => if (v3 != 0) = true then some (.ret (.ret ([], v2.2.2, v3))) else guardO (okLen (v2.2.1.length + 1)) ( some (.go (y4.2.1, v2.2.1 ++ [y5.1], IntKind.i64.wrap (v2.2.2 + 1)))) else some (.ret (.go v2.2.1))) fuel (a0, [], 1)) fun (v4 : (List ApiBlock)) => some (v4, 0, 0)
theorem bk_Program_spec {a0 : (List UInt8)} {y : (List ApiBlock) × Int × Int} (h : bk_Program a0 = some y) : Spec gP 29 [.d (.str a0)] (.tuple [.d (.list (List.map encApiBlock y.1)), .d (.int .i64 y.2.1), .d (.int .i64 y.2.2)]) := by
 refine spec_mir Tryz.func29 rfl (by kernel_rfl) (by kernel_rfl) (fun y : (List ApiBlock) × Int × Int => .tuple [.d (.list (List.map encApiBlock y.1)), .d (.int .i64 y.2.1), .d (.int .i64 y.2.2)]) ?_ h
 unfold bk_Program
 simp only [List.replicate, List.length, nS, nA, Tryz.ntmps29, SV]
 refine .sR fun e h=>?_
 simp only [seval,EME]
 refine mU e (.seqK (.seqK (Mir.joinO (fun v1 : Bool=>([.d (.str a0),U,U,U,U,U,U,U,U,U,U,U,U,U,U,U,U,U,U,U,U,U,U,U,U,U,U,U,U,U,.d (.bool v1)] ++ us 28)) (fun v1=>⟨[],[]⟩) (fun _=>rfl) ?_ ?_))) h
 refine .ite (fun hb1=>?_) (fun hb1=>?_)
 refine .region fun e h=>?_
 simp only [seval,EME,und_9,hb1]
 cases h
 simp only [seval,FME,hb1]
 refine .bind fun y1 hy2=>.ite (fun hb3=>?_) (fun hb3=>?_)
 refine .region fun e h=>?_
 simp only [seval,EME,und_9,hb1,hb3]
 refine SpecS.by (strings_Count_spec hy2) (by simp only [seval,FME,hb1,hb3]) ?_
 simp only [seval,EME,hb1,hb3]
 cases h
 simp only [seval,FME,hb1,hb3]
 refine .bind fun y2 hy4=>.ite (fun hb5=>?_) (fun hb5=>?_)
 refine .bind fun y3 hy6=>.region fun e h=>?_
 simp only [seval,EME,und_9,hb1,hb3,hb5]
 refine SpecS.by (strings_Count_spec hy2) (by simp only [seval,FME,hb1,hb3,hb5]) ?_
 simp only [seval,EME,hb1,hb3,hb5]
 refine SpecS.by (strings_Count_spec hy4) (by simp only [seval,FME,hb1,hb3,hb5]) ?_
 simp only [seval,EME,hb1,hb3,hb5]
 refine SpecS.by (strings_HasSuffix_spec hy6) (by simp only [seval,FME,hb1,hb3,hb5]) ?_
 simp only [seval,EME,hb1,hb3,hb5]
 cases h
 simp only [seval,FME,hb1,hb3,hb5]
 refine .region fun e h=>?_
 simp only [seval,EME,und_9,hb1,hb3,hb5]
 refine SpecS.by (strings_Count_spec hy2) (by simp only [seval,FME,hb1,hb3,hb5]) ?_
 simp only [seval,EME,hb1,hb3,hb5]
 refine SpecS.by (strings_Count_spec hy4) (by simp only [seval,FME,hb1,hb3,hb5]) ?_
 simp only [seval,EME,hb1,hb3,hb5]
 cases h
 simp only [seval,FME,hb1,hb3,hb5]
 intro v1
 refine Mir.toK (.cond rfl (fun hb8=>?_) (fun hb8=>?_))
 refine .sR fun e h=>?_
 simp only [seval,EME]
 refine mU e (.ret fun e h=>?_) h
 cases h
 simp only [seval,FME,Tryz.results29]
 refine .skip (Mir.toK (.sR fun e h=>?_))
 simp only [seval,EME]
 refine mU e (.seqK (.sR fun e h=>?_)) h
 simp only [seval,EME]
 refine mU e (.gh [.slot 5 31] rfl (Mir.join (fun v4 : (List ApiBlock)=>([U,U,U,U,U,.own 0 (List.map encApiBlock v4)] ++ us 53)) (fun v4=>⟨[],[(31,v4.length)]⟩) (fun _=>rfl) ?_ ?_)) h
 refine .block (Mir.loop (fun v2 : (List UInt8) × (List ApiBlock) × Int=>([.d (.str v2.1),U,U,U,U,.own 0 (List.map encApiBlock v2.2.1),.d (.int .i64 v2.2.2)] ++ us 52)) (fun v2=>⟨[],[(31,v2.2.1.length)]⟩) (fun _=>rfl) (by simp only [seval,FME]) (by simp only [seval,FME]) fun v2=>.seqK (.sR fun e h=>?_))
 simp only [seval,EME]
 refine mU e (.cond rfl (fun h1=>?_) (fun h1=>?_)) h
 refine .skip (Mir.toK (.seqK (.block (.seqK (.bind fun y4 h2=>.region fun e h=>?_)))))
 simp only [seval,EME]
 refine SpecS.by (strings_Cut_spec h2) (by simp only [seval,FME]) ?_
 simp only [seval,EME]
 refine mU e (.seqK (.bind fun y5 h3=>.region fun e h=>?_)) h
 simp only [seval,EME]
 refine SpecS.by (bk_Parse_spec h3) (by simp only [seval,FME]) ?_
 simp only [seval,EME,zero_31,sz_31]
 refine mU e (.seqK (.sR fun e h=>?_)) h
 simp only [seval,EME]
 refine mU e (Mir.joinO (fun v3 : Int=>([U,U,U,U,U,.own 0 (List.map encApiBlock v2.2.1),.d (.int .i64 v2.2.2),U,.d (.str y4.2.1),U,.ptr 0 0,U,.d (.int .i64 v3)] ++ us 46)) (fun v3=>⟨[[.d (.bool y5.1.Skip),.d (.list (List.map encApiWord y5.1.Words)),.d (.str y5.1.Comment)]],[(31,v2.2.1.length)]⟩) (fun _=>rfl) ?_ ?_) h
 refine .cond rfl (fun h4=>?_) (fun h4=>?_)
 refine .region fun e h=>?_
 simp only [seval,EME]
 cases h
 simp only [seval,FME,Tryz.results29]
 refine .skip fun e h=>?_
 cases h
 simp only [seval,FME,Tryz.results29]
 intro v3
 refine Mir.toK (.seqK (.sR fun e h=>?_))
 simp only [seval,EME]
 refine mU e (.cond rfl (fun h5=>?_) (fun h5=>?_)) h
 refine .sR fun e h=>?_
 simp only [seval,EME]
 refine mU e (.ret fun e h=>?_) h
 cases h
 simp only [seval,FME,Tryz.results29]
 refine .skip (Mir.toK (.guard fun q1=>.region fun e h=>?_))
 simp only [seval,EME,ag_31,sz_31,und_39,zero_31,(oL 3),app_39,al_ApiBlock,q1]
 refine mU e (.region fun e h=>?_) h
 simp only [seval,EME]
 cases h
 simp only [seval,FME,Tryz.results29]
 refine .exit fun e h=>?_
 cases h
 simp only [seval,FME,Tryz.results29]
 intro v4
 refine Mir.toK (.sR fun e h=>?_)
 simp only [seval,EME]
 refine mU e (.ret fun e h=>?_) h
 cases h
 simp only [seval,FME,Tryz.results29]
def r41_Print (a0 : (List ApiBlock)) : Option ((List UInt8) × Int) := bindX (guardO (okIdx a0) ( rangeX (fun (i1 : Nat) (e1 : ApiBlock) (v1 : (List UInt8)) => bindO (r41_Format e1) fun (y1 : (List UInt8) × Int) => if (y1.2 != 0) = true then some (.ret (.ret ([], y1.2))) else guardO (okStr v1 y1.1) ( guardO (okStr (v1 ++ y1.1) [10]) ( some (.go ((v1 ++ y1.1) ++ [10]))))) (fun (v1 : (List UInt8)) => some (.go v1)) a0 0 [])) fun (v2 : (List UInt8)) => some (v2, 0)
theorem r41_Print_spec {a0 : (List ApiBlock)} {y : (List UInt8) × Int} (h : r41_Print a0 = some y) : Spec gP 65 [.d (.list (List.map encApiBlock a0))] (.tuple [.d (.str y.1), .d (.int .i64 y.2)]) := by
 refine spec_mir Tryz.func65 rfl (by kernel_rfl) (by kernel_rfl) (fun y : (List UInt8) × Int => .tuple [.d (.str y.1), .d (.int .i64 y.2)]) ?_ h
 unfold r41_Print
 simp only [List.replicate, List.length, nS, nA, Tryz.ntmps65, SV]
 refine .sR fun e h=>?_
 simp only [seval,EME]
 refine mU e (.sR fun e h=>?_) h
 simp only [seval,EME]
 refine mU e (.seqK (.sR fun e h=>?_)) h
 simp only [seval,EME]
 refine mU e (Mir.join (fun v2 : (List UInt8)=>([U,U,U,U,.d (.str v2)] ++ us 25)) (fun v2=>⟨[],[]⟩) (fun _=>rfl) ?_ ?_) h
 refine .block (.guard fun q1=>Mir.range (fun (i1 : Nat) (v1 : (List UInt8))=>([.d (.list (List.map encApiBlock a0)),U,U,U,.d (.str v1),.d (.int .i64 (i1 : Int))] ++ us 24)) (fun i1 v1=>⟨[],[]⟩) q1 (fun _ _=>rfl) (by simp only [seval,FME,zNI]) (by simp only [seval,FME,zNI]) ?_ ?_)
 intro i1 e1 v1 qr98
 refine .seqK (.sR fun e h=>?_)
 simp only [seval,EME,und_39,qr98]
 refine mU e (.condT rfl (.skip (Mir.toK (.seqK (.block (.seqK (.bind fun y1 h1=>.region fun e h=>?_))))))) h
 simp only [seval,EME,und_39,sz_31,qr98,Int.toNat_natCast,ag_31]
 refine SpecS.by (r41_Format_spec h1) (by simp only [seval,FME]) ?_
 simp only [seval,EME]
 refine mU e (.seqK (.sR fun e h=>?_)) h
 simp only [seval,EME]
 refine mU e (.cond rfl (fun h2=>?_) (fun h2=>?_)) h
 refine .sR fun e h=>?_
 simp only [seval,EME]
 refine mU e (.ret fun e h=>?_) h
 cases h
 simp only [seval,FME,Tryz.results65]
 refine .skip (Mir.toK (.guard fun q2=>?_))
 replace q2 := okStr_ok q2
 refine .guard fun q3=>?_
 replace q3 := okStr_ok q3
 try simp only [lm,xNA,xCA,xAN,xLC,xLN,xAC,xAL,nA,Nat.zero_add] at q3
 refine .region fun e h=>?_
 simp only [seval,EME,q2,q3]
 refine mU e (.region fun e h=>?_) h
 simp only [seval,EME]
 cases h
 simp only [seval,FME,Tryz.results65,qr98]
 intro v1 qd99
 refine .seqK (.sR fun e h=>?_)
 simp only [seval,EME,und_39,qd99]
 refine mU e (.condF rfl (.exit fun e h=>?_)) h
 cases h
 simp only [seval,FME,Tryz.results65]
 intro v2
 refine Mir.toK (.sR fun e h=>?_)
 simp only [seval,EME]
 refine mU e (.ret fun e h=>?_) h
 cases h
 simp only [seval,FME,Tryz.results65]
def r46_Emit (a0 : (List ApiStage)) (a1 : ApiPos) (a2 : R46Options) : Option ((List UInt8) × Int) := bindO (r46_Blocks a0 a1 a2) fun (y1 : (List ApiBlock) × Int) => if (y1.2 != 0) = true then some ([], y1.2) else bindO (r41_Print y1.1) fun (y2 : (List UInt8) × Int) => if ((y2.2 == 0) && (decide ((y2.1.length : Int) > 65536))) = true then some ([], 3) else some (y2.1, y2.2)
theorem r46_Emit_spec {a0 : (List ApiStage)} {a1 : ApiPos} {a2 : R46Options} {y : (List UInt8) × Int} (h : r46_Emit a0 a1 a2 = some y) : Spec gP 28 [.d (.list (List.map encApiStage a0)), .agg [.d (.int .i64 a1.X), .d (.int .i64 a1.Y), .d (.int .i64 a1.Z)], .agg [.d (.int .i64 a2.Work), .d (.bool a2.Compress), .d (.int .i64 a2.Numbers), .d (.int .i64 a2.Fold)]] (.tuple [.d (.str y.1), .d (.int .i64 y.2)]) := by
 refine spec_mir Tryz.func28 rfl (by kernel_rfl) (by kernel_rfl) (fun y : (List UInt8) × Int => .tuple [.d (.str y.1), .d (.int .i64 y.2)]) ?_ h
 unfold r46_Emit
 simp only [List.replicate, List.length, nS, nA, Tryz.ntmps28, SV]
 refine .sR fun e h=>?_
 simp only [seval,EME]
 refine mU e (.seqK (.bind fun y1 hy1=>.region fun e h=>?_)) h
 simp only [seval,EME,ag_23,sz_23,ag_38,sz_38]
 refine SpecS.by (r46_Blocks_spec hy1) (by simp only [seval,FME]) ?_
 simp only [seval,EME]
 refine mU e (.seqK (.sR fun e h=>?_)) h
 simp only [seval,EME]
 refine mU e (.cond rfl (fun hb3=>?_) (fun hb3=>?_)) h
 refine .sR fun e h=>?_
 simp only [seval,EME]
 refine mU e (.ret fun e h=>?_) h
 cases h
 simp only [seval,FME,Tryz.results28]
 refine .skip (Mir.toK (.seqK (.bind fun y2 hy4=>.region fun e h=>?_)))
 simp only [seval,EME]
 refine SpecS.by (r41_Print_spec hy4) (by simp only [seval,FME]) ?_
 simp only [seval,EME]
 refine mU e (.seqK (.seqK (.joinV [U,U,U,U,U,U,U,U,U,.d (.int .i64 y2.2),.d (.str y2.1),U,U,U,U,U,U,U,U,U,U,U,U,U,U,U,U,U,U,U,U,U,.d (.bool ((y2.2 == 0) && (decide ((y2.1.length : Int) > 65536)))),U,U] ⟨[[.d (.int .i64 a1.X),.d (.int .i64 a1.Y),.d (.int .i64 a1.Z)],[.d (.int .i64 a2.Work),.d (.bool a2.Compress),.d (.int .i64 a2.Numbers),.d (.int .i64 a2.Fold)]],[]⟩ rfl ?_ ?_))) h
 refine SWs.region ?_
 rcases Bool.eq_false_or_eq_true (y2.2 == 0) with hb5 | hb5
 simp only [seval,EME,SL,PB,und_9,hb5]
 simp only [seval,EME,SL,PB,hb5]
 refine Mir.toK (.cond rfl (fun hb7=>?_) (fun hb7=>?_))
 refine .sR fun e h=>?_
 simp only [seval,EME]
 refine mU e (.ret fun e h=>?_) h
 cases h
 simp only [seval,FME,Tryz.results28]
 refine .skip (Mir.toK (.sR fun e h=>?_))
 simp only [seval,EME]
 refine mU e (.ret fun e h=>?_) h
 cases h
 simp only [seval,FME,Tryz.results28]
end Go.Proofs.YtejknolljjpodaaGreatDoor
