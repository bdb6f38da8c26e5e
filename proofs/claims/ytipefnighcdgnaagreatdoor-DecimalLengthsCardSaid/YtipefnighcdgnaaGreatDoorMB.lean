import Derived.Test.YtipefnighcdgnaaGreatDoorGx
import Derived.Test.YtipefnighcdgnaaGreatDoorTy
import Derived.Test.YtipefnighcdgnaaGreatDoorBu
import Derived.Test.YtipefnighcdgnaaGreatDoorLbe
import Derived.Test.YtipefnighcdgnaaGreatDoorMI
import Derived.Test.YtipefnighcdgnaaGreatDoorMQ
namespace Go.Proofs.YtipefnighcdgnaaGreatDoor
open Go.RowKit
open Nat renaming reduceAdd → nA, reduceSub → nS, reduceMul → nM, reduceEqDiff → nE, reduceLeDiff → nL, reduceLT → nT, reduceBEq → nB
open Int renaming reduceLT → iT, reduceToNat → iN, reduceEq → iE
set_option linter.unusedVariables false
set_option linter.unusedSimpArgs false
set_option maxRecDepth 100000
set_option maxHeartbeats 8000000
theorem EMB : type_of% (@SE) := @SE
theorem FMB : type_of% (@SF) := @SF
def bits_Mul64 (a0 : Int) (a1 : Int) : Option (Int × Int) := some (IntKind.u64.wrap ((IntKind.u64.wrap ((IntKind.u64.wrap ((shrI .u64 a0 32) * (shrI .u64 a1 32))) + (shrI .u64 (IntKind.u64.wrap ((IntKind.u64.wrap ((shrI .u64 a0 32) * (andI .u64 a1 4294967295))) + (shrI .u64 (IntKind.u64.wrap ((andI .u64 a0 4294967295) * (andI .u64 a1 4294967295))) 32))) 32))) + (shrI .u64 (IntKind.u64.wrap ((andI .u64 (IntKind.u64.wrap ((IntKind.u64.wrap ((shrI .u64 a0 32) * (andI .u64 a1 4294967295))) + (shrI .u64 (IntKind.u64.wrap ((andI .u64 a0 4294967295) * (andI .u64 a1 4294967295))) 32))) 4294967295) + (IntKind.u64.wrap ((andI .u64 a0 4294967295) * (shrI .u64 a1 32))))) 32)), IntKind.u64.wrap (a0 * a1))
theorem bits_Mul64_spec {a0 : Int} {a1 : Int} {y : Int × Int} (h : bits_Mul64 a0 a1 = some y) : Spec gP 174 [.d (.int .u64 a0), .d (.int .u64 a1)] (.tuple [.d (.int .u64 y.1), .d (.int .u64 y.2)]) := by
 refine spec_mir Tryz.func174 rfl (by kernel_rfl) (by kernel_rfl) (fun y : Int × Int => .tuple [.d (.int .u64 y.1), .d (.int .u64 y.2)]) ?_ h
 unfold bits_Mul64
 simp only [List.replicate, List.length, nS, nA, Tryz.ntmps174, SV]
 refine .sR fun e h=>?_
 simp only [seval,EMB]
 refine mU e (.sR fun e h=>?_) h
 simp only [seval,EMB]
 refine mU e (.sR fun e h=>?_) h
 simp only [seval,EMB]
 refine mU e (.sR fun e h=>?_) h
 simp only [seval,EMB]
 refine mU e (.sR fun e h=>?_) h
 simp only [seval,EMB]
 refine mU e (.sR fun e h=>?_) h
 simp only [seval,EMB]
 refine mU e (.sR fun e h=>?_) h
 simp only [seval,EMB]
 refine mU e (.sR fun e h=>?_) h
 simp only [seval,EMB]
 refine mU e (.sR fun e h=>?_) h
 simp only [seval,EMB]
 refine mU e (.sR fun e h=>?_) h
 simp only [seval,EMB]
 refine mU e (.sR fun e h=>?_) h
 simp only [seval,EMB]
 refine mU e (.sR fun e h=>?_) h
 simp only [seval,EMB]
 refine mU e (.ret fun e h=>?_) h
 cases h
 simp only [seval,FMB,Tryz.results174]
def bits_Mul (a0 : Int) (a1 : Int) : Option (Int × Int) := bindO (bits_Mul64 a0 a1) fun (y1 : Int × Int) => some (y1.1, y1.2)
theorem bits_Mul_spec {a0 : Int} {a1 : Int} {y : Int × Int} (h : bits_Mul a0 a1 = some y) : Spec gP 132 [.d (.int .u64 a0), .d (.int .u64 a1)] (.tuple [.d (.int .u64 y.1), .d (.int .u64 y.2)]) := by
 refine spec_mir Tryz.func132 rfl (by kernel_rfl) (by kernel_rfl) (fun y : Int × Int => .tuple [.d (.int .u64 y.1), .d (.int .u64 y.2)]) ?_ h
 unfold bits_Mul
 simp only [List.replicate, List.length, nS, nA, Tryz.ntmps132, SV]
 refine .sR fun e h=>?_
 simp only [seval,EMB]
 refine mU e (.seqK (.condF rfl (.skip (Mir.toK (.seqK (.bind fun y1 hy1=>.region fun e h=>?_)))))) h
 simp only [seval,EMB]
 refine SpecS.by (bits_Mul64_spec hy1) (by simp only [seval,FMB]) ?_
 simp only [seval,EMB]
 refine mU e (.sR fun e h=>?_) h
 simp only [seval,EMB]
 refine mU e (.ret fun e h=>?_) h
 cases h
 simp only [seval,FMB,Tryz.results132]
def stringslite_HasPrefix (a0 : (List UInt8)) (a1 : (List UInt8)) : Option Bool := bindO (if (decide ((a0.length : Int) ≥ (a1.length : Int))) = true then bindO (cutT a0 (a1.length : Int)) fun (s1 : (List UInt8)) => some (s1 == a1) else some false) fun (v1 : Bool) => some v1
theorem stringslite_HasPrefix_spec {a0 : (List UInt8)} {a1 : (List UInt8)} {y : Bool} (h : stringslite_HasPrefix a0 a1 = some y) : Spec gP 175 [.d (.str a0), .d (.str a1)] (.d (.bool y)) := by
 refine spec_mir Tryz.func175 rfl (by kernel_rfl) (by kernel_rfl) (fun y : Bool => .d (.bool y)) ?_ h
 unfold stringslite_HasPrefix
 simp only [List.replicate, List.length, nS, nA, Tryz.ntmps175, SV]
 refine .sR fun e h=>?_
 simp only [seval,EMB]
 refine mU e (.seqK (Mir.joinO (fun v1 : Bool=>([U,U,U,U,.d (.bool v1)] ++ us 13)) (fun v1=>⟨[],[]⟩) (fun _=>rfl) ?_ ?_)) h
 refine .ite (fun hb1=>?_) (fun hb1=>?_)
 refine .bind fun s1 q2=>?_
 replace q2 := cutT_ok q2
 refine .region fun e h=>?_
 simp only [seval,EMB,und_9,q2,Nat.le_refl,and_true,true_and,dm,tm,hb1]
 cases h
 simp only [seval,FMB,hb1]
 refine .region fun e h=>?_
 simp only [seval,EMB,und_9,hb1]
 cases h
 simp only [seval,FMB,hb1]
 intro v1
 refine Mir.toK (.ret fun e h=>?_)
 cases h
 simp only [seval,FMB,Tryz.results175]
def strings_HasPrefix (a0 : (List UInt8)) (a1 : (List UInt8)) : Option Bool := bindO (stringslite_HasPrefix a0 a1) fun (y1 : Bool) => some y1
theorem strings_HasPrefix_spec {a0 : (List UInt8)} {a1 : (List UInt8)} {y : Bool} (h : strings_HasPrefix a0 a1 = some y) : Spec gP 133 [.d (.str a0), .d (.str a1)] (.d (.bool y)) := by
 refine spec_mir Tryz.func133 rfl (by kernel_rfl) (by kernel_rfl) (fun y : Bool => .d (.bool y)) ?_ h
 unfold strings_HasPrefix
 simp only [List.replicate, List.length, nS, nA, Tryz.ntmps133, SV]
 refine .sR fun e h=>?_
 simp only [seval,EMB]
 refine mU e (.seqK (.bind fun y1 hy1=>.region fun e h=>?_)) h
 simp only [seval,EMB]
 refine SpecS.by (stringslite_HasPrefix_spec hy1) (by simp only [seval,FMB]) ?_
 simp only [seval,EMB]
 refine mU e (.ret fun e h=>?_) h
 cases h
 simp only [seval,FMB,Tryz.results133]
def strings_Repeat (a0 : (List UInt8)) (a1 : Int) : Option (List UInt8) := if (a1 == 0) = true then some [] else if (a1 == 1) = true then some a0 else if (decide (a1 < 0)) = true then none else bindO (bits_Mul (IntKind.u64.wrap (a0.length : Int)) (IntKind.u64.wrap a1)) fun (y1 : Int × Int) => if ((decide (y1.1 > 0)) || (decide (y1.2 > 9223372036854775807))) = true then none else if ((a0.length : Int) == 0) = true then some [] else bindO (gt a0 0) fun (c1 : UInt8) => bindX (bindO (if ((c1.toNat : Int) == 32) = true then some ((c1.toNat : Int) == 32) else if ((c1.toNat : Int) == 45) = true then some ((c1.toNat : Int) == 45) else if ((c1.toNat : Int) == 48) = true then some ((c1.toNat : Int) == 48) else if ((c1.toNat : Int) == 61) = true then some ((c1.toNat : Int) == 61) else some ((c1.toNat : Int) == 9)) fun (v1 : Bool) => if v1 = true then bindO (if (decide ((IntKind.i64.wrap y1.2) ≤ 128)) = true then bindO (strings_HasPrefix [32, 32, 32, 32, 32, 32, 32, 32, 32, 32, 32, 32, 32, 32, 32, 32, 32, 32, 32, 32, 32, 32, 32, 32, 32, 32, 32, 32, 32, 32, 32, 32, 32, 32, 32, 32, 32, 32, 32, 32, 32, 32, 32, 32, 32, 32, 32, 32, 32, 32, 32, 32, 32, 32, 32, 32, 32, 32, 32, 32, 32, 32, 32, 32, 32, 32, 32, 32, 32, 32, 32, 32, 32, 32, 32, 32, 32, 32, 32, 32, 32, 32, 32, 32, 32, 32, 32, 32, 32, 32, 32, 32, 32, 32, 32, 32, 32, 32, 32, 32, 32, 32, 32, 32, 32, 32, 32, 32, 32, 32, 32, 32, 32, 32, 32, 32, 32, 32, 32, 32, 32, 32, 32, 32, 32, 32, 32, 32] a0) fun (y2 : Bool) => some y2 else some false) fun (v2 : Bool) => if v2 = true then bindO (cutT [32, 32, 32, 32, 32, 32, 32, 32, 32, 32, 32, 32, 32, 32, 32, 32, 32, 32, 32, 32, 32, 32, 32, 32, 32, 32, 32, 32, 32, 32, 32, 32, 32, 32, 32, 32, 32, 32, 32, 32, 32, 32, 32, 32, 32, 32, 32, 32, 32, 32, 32, 32, 32, 32, 32, 32, 32, 32, 32, 32, 32, 32, 32, 32, 32, 32, 32, 32, 32, 32, 32, 32, 32, 32, 32, 32, 32, 32, 32, 32, 32, 32, 32, 32, 32, 32, 32, 32, 32, 32, 32, 32, 32, 32, 32, 32, 32, 32, 32, 32, 32, 32, 32, 32, 32, 32, 32, 32, 32, 32, 32, 32, 32, 32, 32, 32, 32, 32, 32, 32, 32, 32, 32, 32, 32, 32, 32, 32] (IntKind.i64.wrap y1.2)) fun (s1 : (List UInt8)) => some (.ret s1) else bindO (if (decide ((IntKind.i64.wrap y1.2) ≤ 128)) = true then bindO (strings_HasPrefix [45, 45, 45, 45, 45, 45, 45, 45, 45, 45, 45, 45, 45, 45, 45, 45, 45, 45, 45, 45, 45, 45, 45, 45, 45, 45, 45, 45, 45, 45, 45, 45, 45, 45, 45, 45, 45, 45, 45, 45, 45, 45, 45, 45, 45, 45, 45, 45, 45, 45, 45, 45, 45, 45, 45, 45, 45, 45, 45, 45, 45, 45, 45, 45, 45, 45, 45, 45, 45, 45, 45, 45, 45, 45, 45, 45, 45, 45, 45, 45, 45, 45, 45, 45, 45, 45, 45, 45, 45, 45, 45, 45, 45, 45, 45, 45, 45, 45, 45, 45, 45, 45, 45, 45, 45, 45, 45, 45, 45, 45, 45, 45, 45, 45, 45, 45, 45, 45, 45, 45, 45, 45, 45, 45, 45, 45, 45, 45] a0) fun (y3 : Bool) => some y3 else some false) fun (v3 : Bool) => if v3 = true then bindO (cutT [45, 45, 45, 45, 45, 45, 45, 45, 45, 45, 45, 45, 45, 45, 45, 45, 45, 45, 45, 45, 45, 45, 45, 45, 45, 45, 45, 45, 45, 45, 45, 45, 45, 45, 45, 45, 45, 45, 45, 45, 45, 45, 45, 45, 45, 45, 45, 45, 45, 45, 45, 45, 45, 45, 45, 45, 45, 45, 45, 45, 45, 45, 45, 45, 45, 45, 45, 45, 45, 45, 45, 45, 45, 45, 45, 45, 45, 45, 45, 45, 45, 45, 45, 45, 45, 45, 45, 45, 45, 45, 45, 45, 45, 45, 45, 45, 45, 45, 45, 45, 45, 45, 45, 45, 45, 45, 45, 45, 45, 45, 45, 45, 45, 45, 45, 45, 45, 45, 45, 45, 45, 45, 45, 45, 45, 45, 45, 45] (IntKind.i64.wrap y1.2)) fun (s2 : (List UInt8)) => some (.ret s2) else bindO (if (decide ((IntKind.i64.wrap y1.2) ≤ 64)) = true then bindO (strings_HasPrefix [48, 48, 48, 48, 48, 48, 48, 48, 48, 48, 48, 48, 48, 48, 48, 48, 48, 48, 48, 48, 48, 48, 48, 48, 48, 48, 48, 48, 48, 48, 48, 48, 48, 48, 48, 48, 48, 48, 48, 48, 48, 48, 48, 48, 48, 48, 48, 48, 48, 48, 48, 48, 48, 48, 48, 48, 48, 48, 48, 48, 48, 48, 48, 48] a0) fun (y4 : Bool) => some y4 else some false) fun (v4 : Bool) => if v4 = true then bindO (cutT [48, 48, 48, 48, 48, 48, 48, 48, 48, 48, 48, 48, 48, 48, 48, 48, 48, 48, 48, 48, 48, 48, 48, 48, 48, 48, 48, 48, 48, 48, 48, 48, 48, 48, 48, 48, 48, 48, 48, 48, 48, 48, 48, 48, 48, 48, 48, 48, 48, 48, 48, 48, 48, 48, 48, 48, 48, 48, 48, 48, 48, 48, 48, 48] (IntKind.i64.wrap y1.2)) fun (s3 : (List UInt8)) => some (.ret s3) else bindO (if (decide ((IntKind.i64.wrap y1.2) ≤ 128)) = true then bindO (strings_HasPrefix [61, 61, 61, 61, 61, 61, 61, 61, 61, 61, 61, 61, 61, 61, 61, 61, 61, 61, 61, 61, 61, 61, 61, 61, 61, 61, 61, 61, 61, 61, 61, 61, 61, 61, 61, 61, 61, 61, 61, 61, 61, 61, 61, 61, 61, 61, 61, 61, 61, 61, 61, 61, 61, 61, 61, 61, 61, 61, 61, 61, 61, 61, 61, 61, 61, 61, 61, 61, 61, 61, 61, 61, 61, 61, 61, 61, 61, 61, 61, 61, 61, 61, 61, 61, 61, 61, 61, 61, 61, 61, 61, 61, 61, 61, 61, 61, 61, 61, 61, 61, 61, 61, 61, 61, 61, 61, 61, 61, 61, 61, 61, 61, 61, 61, 61, 61, 61, 61, 61, 61, 61, 61, 61, 61, 61, 61, 61, 61] a0) fun (y5 : Bool) => some y5 else some false) fun (v5 : Bool) => if v5 = true then bindO (cutT [61, 61, 61, 61, 61, 61, 61, 61, 61, 61, 61, 61, 61, 61, 61, 61, 61, 61, 61, 61, 61, 61, 61, 61, 61, 61, 61, 61, 61, 61, 61, 61, 61, 61, 61, 61, 61, 61, 61, 61, 61, 61, 61, 61, 61, 61, 61, 61, 61, 61, 61, 61, 61, 61, 61, 61, 61, 61, 61, 61, 61, 61, 61, 61, 61, 61, 61, 61, 61, 61, 61, 61, 61, 61, 61, 61, 61, 61, 61, 61, 61, 61, 61, 61, 61, 61, 61, 61, 61, 61, 61, 61, 61, 61, 61, 61, 61, 61, 61, 61, 61, 61, 61, 61, 61, 61, 61, 61, 61, 61, 61, 61, 61, 61, 61, 61, 61, 61, 61, 61, 61, 61, 61, 61, 61, 61, 61, 61] (IntKind.i64.wrap y1.2)) fun (s4 : (List UInt8)) => some (.ret s4) else bindO (if (decide ((IntKind.i64.wrap y1.2) ≤ 64)) = true then bindO (strings_HasPrefix [9, 9, 9, 9, 9, 9, 9, 9, 9, 9, 9, 9, 9, 9, 9, 9, 9, 9, 9, 9, 9, 9, 9, 9, 9, 9, 9, 9, 9, 9, 9, 9, 9, 9, 9, 9, 9, 9, 9, 9, 9, 9, 9, 9, 9, 9, 9, 9, 9, 9, 9, 9, 9, 9, 9, 9, 9, 9, 9, 9, 9, 9, 9, 9] a0) fun (y6 : Bool) => some y6 else some false) fun (v6 : Bool) => if v6 = true then bindO (cutT [9, 9, 9, 9, 9, 9, 9, 9, 9, 9, 9, 9, 9, 9, 9, 9, 9, 9, 9, 9, 9, 9, 9, 9, 9, 9, 9, 9, 9, 9, 9, 9, 9, 9, 9, 9, 9, 9, 9, 9, 9, 9, 9, 9, 9, 9, 9, 9, 9, 9, 9, 9, 9, 9, 9, 9, 9, 9, 9, 9, 9, 9, 9, 9] (IntKind.i64.wrap y1.2)) fun (s5 : (List UInt8)) => some (.ret s5) else some (.go ()) else some (.go ())) fun (v7 : Unit) => if (decide ((IntKind.i64.wrap y1.2) > 8192)) = true then guardO (!((a0.length : Int) == 0)) ( if ((IntKind.i64.wrap ((IntKind.i64.wrap (Int.tdiv 8192 (a0.length : Int))) * (a0.length : Int))) == 0) = true then none else none) else none
theorem strings_Repeat_spec {a0 : (List UInt8)} {a1 : Int} {y : (List UInt8)} (h : strings_Repeat a0 a1 = some y) : Spec gP 89 [.d (.str a0), .d (.int .i64 a1)] (.d (.str y)) := by
 refine spec_mir Tryz.func89 rfl (by kernel_rfl) (by kernel_rfl) (fun y : (List UInt8) => .d (.str y)) ?_ h
 unfold strings_Repeat
 simp only [List.replicate, List.length, nS, nA, Tryz.ntmps89, SV]
 refine .sR fun e h=>?_
 simp only [seval,EMB,List.append_eq,List.cons_append,List.nil_append]
 refine mU e (.seqK (.sR fun e h=>?_)) h
 simp only [seval,EMB,List.append_eq,List.cons_append,List.nil_append]
 refine mU e (.block (.sR fun e h=>?_)) h
 simp only [seval,EMB,List.append_eq,List.cons_append,List.nil_append]
 refine mU e (.cond rfl (fun hb5=>?_) (fun hb5=>?_)) h
 refine .sR fun e h=>?_
 simp only [seval,EMB,List.append_eq,List.cons_append,List.nil_append]
 refine mU e (.ret fun e h=>?_) h
 cases h
 simp only [seval,FMB,List.append_eq,List.cons_append,List.nil_append,Tryz.results89]
 refine .sR fun e h=>?_
 simp only [seval,EMB,List.append_eq,List.cons_append,List.nil_append]
 refine mU e (.cond rfl (fun hb7=>?_) (fun hb7=>?_)) h
 refine .sR fun e h=>?_
 simp only [seval,EMB,List.append_eq,List.cons_append,List.nil_append]
 refine mU e (.ret fun e h=>?_) h
 cases h
 simp only [seval,FMB,List.append_eq,List.cons_append,List.nil_append,Tryz.results89]
 refine .skip (Mir.toB (Mir.toK (.seqK (.sR fun e h=>?_))))
 simp only [seval,EMB,List.append_eq,List.cons_append,List.nil_append]
 refine mU e (.cond rfl (fun hb9=>?_) (fun hb9=>?_)) h
 exact Mir.no
 refine .skip (Mir.toK (.seqK (.bind fun y1 hy10=>.region fun e h=>?_)))
 simp only [seval,EMB,und_9,und_3,und_128,List.append_eq,List.cons_append,List.nil_append]
 refine SpecS.by (bits_Mul_spec hy10) (by simp only [seval,FMB,List.append_eq,List.cons_append,List.nil_append]) ?_
 simp only [seval,EMB,List.append_eq,List.cons_append,List.nil_append]
 refine mU e (.seqK (.seqK (.joinV ([.d (.str a0),U,U,U,U,U,.d (.int .u64 y1.2),U,U,U,U,U,U,U,U,U,U,U,U,U,U,U,U,U,U,U,U,U,U,U,U,U,U,U,.d (.bool ((decide (y1.1 > 0)) || (decide (y1.2 > 9223372036854775807))))] ++ us 90) ⟨[],[]⟩ rfl ?_ ?_))) h
 refine SWs.region ?_
 rcases Bool.eq_false_or_eq_true (decide (y1.1 > 0)) with hb11 | hb11
 simp only [seval,EMB,SL,PB,hb11,List.append_eq,List.cons_append,List.nil_append]
 simp only [seval,EMB,SL,PB,hb11,List.append_eq,List.cons_append,List.nil_append]
 refine Mir.toK (.cond rfl (fun hb13=>?_) (fun hb13=>?_))
 exact Mir.no
 refine .skip (Mir.toK (.sR fun e h=>?_))
 simp only [seval,EMB,und_128,und_3,List.append_eq,List.cons_append,List.nil_append]
 refine mU e (.seqK (.sR fun e h=>?_)) h
 simp only [seval,EMB,und_9,List.append_eq,List.cons_append,List.nil_append]
 refine mU e (.cond rfl (fun hb15=>?_) (fun hb15=>?_)) h
 refine .sR fun e h=>?_
 simp only [seval,EMB,List.append_eq,List.cons_append,List.nil_append]
 refine mU e (.ret fun e h=>?_) h
 cases h
 simp only [seval,FMB,List.append_eq,List.cons_append,List.nil_append,Tryz.results89]
 refine .skip (Mir.toK (.seqK (.seqK (.bind fun c1 q16=>?_))))
 replace q16 := gt_ok q16
 simp only [Int.reduceToNat,Int.reduceLT,Nat.sub_zero,dp0] at q16
 refine .region fun e h=>?_
 simp only [seval,EMB,und_9,q16,List.append_eq,List.cons_append,List.nil_append]
 refine mU e (Mir.join (fun v7 : Unit=>([.d (.str a0),U,U,U,U,U,U,.d (.int .i64 (IntKind.i64.wrap y1.2))] ++ us 117)) (fun v7=>⟨[],[]⟩) (fun _=>rfl) ?_ ?_) h
 refine .block (.seqK (.sR fun e h=>?_))
 simp only [seval,EMB,List.append_eq,List.cons_append,List.nil_append]
 refine mU e (Mir.joinO (fun v1 : Bool=>([.d (.str a0),U,U,U,U,U,U,.d (.int .i64 (IntKind.i64.wrap y1.2)),U,U,U,U,U,U,U,U,U,U,U,U,U,U,U,U,U,U,U,U,U,U,U,U,U,U,U,U,U,U,U,U,U,U,U,.d (.bool v1)] ++ us 81)) (fun v1=>⟨[],[]⟩) (fun _=>rfl) ?_ ?_) h
 refine .cond rfl (fun hb50=>?_) (fun hb50=>?_)
 refine .skip fun e h=>?_
 cases h
 simp only [seval,FMB,List.append_eq,List.cons_append,List.nil_append,Tryz.results89]
 refine .sR fun e h=>?_
 simp only [seval,EMB,List.append_eq,List.cons_append,List.nil_append]
 refine mU e (.cond rfl (fun hb51=>?_) (fun hb51=>?_)) h
 refine .skip fun e h=>?_
 cases h
 simp only [seval,FMB,List.append_eq,List.cons_append,List.nil_append,Tryz.results89]
 refine .sR fun e h=>?_
 simp only [seval,EMB,List.append_eq,List.cons_append,List.nil_append]
 refine mU e (.cond rfl (fun hb52=>?_) (fun hb52=>?_)) h
 refine .skip fun e h=>?_
 cases h
 simp only [seval,FMB,List.append_eq,List.cons_append,List.nil_append,Tryz.results89]
 refine .sR fun e h=>?_
 simp only [seval,EMB,List.append_eq,List.cons_append,List.nil_append]
 refine mU e (.cond rfl (fun hb53=>?_) (fun hb53=>?_)) h
 refine .skip fun e h=>?_
 cases h
 simp only [seval,FMB,List.append_eq,List.cons_append,List.nil_append,Tryz.results89]
 refine .region fun e h=>?_
 simp only [seval,EMB,List.append_eq,List.cons_append,List.nil_append]
 cases h
 simp only [seval,FMB,List.append_eq,List.cons_append,List.nil_append,Tryz.results89]
 intro v1
 refine Mir.toK (.cond rfl (fun hb54=>?_) (fun hb54=>?_))
 refine .block (.seqK (Mir.joinO (fun v2 : Bool=>([.d (.str a0),U,U,U,U,U,U,.d (.int .i64 (IntKind.i64.wrap y1.2)),U,U,U,U,U,U,U,U,U,U,U,U,U,U,U,U,U,U,U,U,U,U,U,U,U,U,U,U,U,U,U,U,U,U,U,U,U,U,U,U,U,.d (.bool v2)] ++ us 75)) (fun v2=>⟨[],[]⟩) (fun _=>rfl) ?_ ?_))
 refine .ite (fun hb55=>?_) (fun hb55=>?_)
 refine .bind fun y2 hy56=>.region fun e h=>?_
 simp only [seval,EMB,List.append_eq,List.cons_append,List.nil_append,hb55]
 refine SpecS.by (strings_HasPrefix_spec hy56) (by simp only [seval,FMB,List.append_eq,List.cons_append,List.nil_append,hb55]) ?_
 simp only [seval,EMB,List.append_eq,List.cons_append,List.nil_append,hb55]
 cases h
 simp only [seval,FMB,List.append_eq,List.cons_append,List.nil_append,hb55]
 refine .region fun e h=>?_
 simp only [seval,EMB,List.append_eq,List.cons_append,List.nil_append,hb55]
 cases h
 simp only [seval,FMB,List.append_eq,List.cons_append,List.nil_append,hb55]
 intro v2
 refine Mir.toK (.cond rfl (fun hb57=>?_) (fun hb57=>?_))
 refine .seqK (.bind fun s1 q58=>?_)
 replace q58 := cutT_ok q58
 simp only [xLC,xLN,Nat.zero_add,nA] at q58
 refine .region fun e h=>?_
 simp only [seval,EMB,und_9,q58,Nat.le_refl,and_true,true_and,dm,tm,List.append_eq,List.cons_append,List.nil_append]
 refine mU e (.ret fun e h=>?_) h
 cases h
 simp only [seval,FMB,List.append_eq,List.cons_append,List.nil_append,Tryz.results89]
 refine .seqK (Mir.joinO (fun v3 : Bool=>([.d (.str a0),U,U,U,U,U,U,.d (.int .i64 (IntKind.i64.wrap y1.2)),U,U,U,U,U,U,U,U,U,U,U,U,U,U,U,U,U,U,U,U,U,U,U,U,U,U,U,U,U,U,U,U,U,U,U,U,U,U,U,U,U,U,U,U,U,U,U,U,U,U,.d (.bool v3)] ++ us 66)) (fun v3=>⟨[],[]⟩) (fun _=>rfl) ?_ ?_)
 refine .ite (fun hb59=>?_) (fun hb59=>?_)
 refine .bind fun y3 hy60=>.region fun e h=>?_
 simp only [seval,EMB,List.append_eq,List.cons_append,List.nil_append,hb59]
 refine SpecS.by (strings_HasPrefix_spec hy60) (by simp only [seval,FMB,List.append_eq,List.cons_append,List.nil_append,hb59]) ?_
 simp only [seval,EMB,List.append_eq,List.cons_append,List.nil_append,hb59]
 cases h
 simp only [seval,FMB,List.append_eq,List.cons_append,List.nil_append,hb59]
 refine .region fun e h=>?_
 simp only [seval,EMB,List.append_eq,List.cons_append,List.nil_append,hb59]
 cases h
 simp only [seval,FMB,List.append_eq,List.cons_append,List.nil_append,hb59]
 intro v3
 refine Mir.toK (.cond rfl (fun hb61=>?_) (fun hb61=>?_))
 refine .seqK (.bind fun s2 q62=>?_)
 replace q62 := cutT_ok q62
 simp only [xLC,xLN,Nat.zero_add,nA] at q62
 refine .region fun e h=>?_
 simp only [seval,EMB,und_9,q62,Nat.le_refl,and_true,true_and,dm,tm,List.append_eq,List.cons_append,List.nil_append]
 refine mU e (.ret fun e h=>?_) h
 cases h
 simp only [seval,FMB,List.append_eq,List.cons_append,List.nil_append,Tryz.results89]
 refine .seqK (Mir.joinO (fun v4 : Bool=>([.d (.str a0),U,U,U,U,U,U,.d (.int .i64 (IntKind.i64.wrap y1.2)),U,U,U,U,U,U,U,U,U,U,U,U,U,U,U,U,U,U,U,U,U,U,U,U,U,U,U,U,U,U,U,U,U,U,U,U,U,U,U,U,U,U,U,U,U,U,U,U,U,U,U,U,U,U,U,U,U,U,U,.d (.bool v4)] ++ us 57)) (fun v4=>⟨[],[]⟩) (fun _=>rfl) ?_ ?_)
 refine .ite (fun hb63=>?_) (fun hb63=>?_)
 refine .bind fun y4 hy64=>.region fun e h=>?_
 simp only [seval,EMB,List.append_eq,List.cons_append,List.nil_append,hb63]
 refine SpecS.by (strings_HasPrefix_spec hy64) (by simp only [seval,FMB,List.append_eq,List.cons_append,List.nil_append,hb63]) ?_
 simp only [seval,EMB,List.append_eq,List.cons_append,List.nil_append,hb63]
 cases h
 simp only [seval,FMB,List.append_eq,List.cons_append,List.nil_append,hb63]
 refine .region fun e h=>?_
 simp only [seval,EMB,List.append_eq,List.cons_append,List.nil_append,hb63]
 cases h
 simp only [seval,FMB,List.append_eq,List.cons_append,List.nil_append,hb63]
 intro v4
 refine Mir.toK (.cond rfl (fun hb65=>?_) (fun hb65=>?_))
 refine .seqK (.bind fun s3 q66=>?_)
 replace q66 := cutT_ok q66
 simp only [xLC,xLN,Nat.zero_add,nA] at q66
 refine .region fun e h=>?_
 simp only [seval,EMB,und_9,q66,Nat.le_refl,and_true,true_and,dm,tm,List.append_eq,List.cons_append,List.nil_append]
 refine mU e (.ret fun e h=>?_) h
 cases h
 simp only [seval,FMB,List.append_eq,List.cons_append,List.nil_append,Tryz.results89]
 refine .seqK (Mir.joinO (fun v5 : Bool=>([.d (.str a0),U,U,U,U,U,U,.d (.int .i64 (IntKind.i64.wrap y1.2)),U,U,U,U,U,U,U,U,U,U,U,U,U,U,U,U,U,U,U,U,U,U,U,U,U,U,U,U,U,U,U,U,U,U,U,U,U,U,U,U,U,U,U,U,U,U,U,U,U,U,U,U,U,U,U,U,U,U,U,U,U,U,U,U,U,U,U,U,.d (.bool v5)] ++ us 48)) (fun v5=>⟨[],[]⟩) (fun _=>rfl) ?_ ?_)
 refine .ite (fun hb67=>?_) (fun hb67=>?_)
 refine .bind fun y5 hy68=>.region fun e h=>?_
 simp only [seval,EMB,List.append_eq,List.cons_append,List.nil_append,hb67]
 refine SpecS.by (strings_HasPrefix_spec hy68) (by simp only [seval,FMB,List.append_eq,List.cons_append,List.nil_append,hb67]) ?_
 simp only [seval,EMB,List.append_eq,List.cons_append,List.nil_append,hb67]
 cases h
 simp only [seval,FMB,List.append_eq,List.cons_append,List.nil_append,hb67]
 refine .region fun e h=>?_
 simp only [seval,EMB,List.append_eq,List.cons_append,List.nil_append,hb67]
 cases h
 simp only [seval,FMB,List.append_eq,List.cons_append,List.nil_append,hb67]
 intro v5
 refine Mir.toK (.cond rfl (fun hb69=>?_) (fun hb69=>?_))
 refine .seqK (.bind fun s4 q70=>?_)
 replace q70 := cutT_ok q70
 simp only [xLC,xLN,Nat.zero_add,nA] at q70
 refine .region fun e h=>?_
 simp only [seval,EMB,und_9,q70,Nat.le_refl,and_true,true_and,dm,tm,List.append_eq,List.cons_append,List.nil_append]
 refine mU e (.ret fun e h=>?_) h
 cases h
 simp only [seval,FMB,List.append_eq,List.cons_append,List.nil_append,Tryz.results89]
 refine .seqK (Mir.joinO (fun v6 : Bool=>([.d (.str a0),U,U,U,U,U,U,.d (.int .i64 (IntKind.i64.wrap y1.2)),U,U,U,U,U,U,U,U,U,U,U,U,U,U,U,U,U,U,U,U,U,U,U,U,U,U,U,U,U,U,U,U,U,U,U,U,U,U,U,U,U,U,U,U,U,U,U,U,U,U,U,U,U,U,U,U,U,U,U,U,U,U,U,U,U,U,U,U,U,U,U,U,U,U,U,U,U,.d (.bool v6)] ++ us 39)) (fun v6=>⟨[],[]⟩) (fun _=>rfl) ?_ ?_)
 refine .ite (fun hb71=>?_) (fun hb71=>?_)
 refine .bind fun y6 hy72=>.region fun e h=>?_
 simp only [seval,EMB,List.append_eq,List.cons_append,List.nil_append,hb71]
 refine SpecS.by (strings_HasPrefix_spec hy72) (by simp only [seval,FMB,List.append_eq,List.cons_append,List.nil_append,hb71]) ?_
 simp only [seval,EMB,List.append_eq,List.cons_append,List.nil_append,hb71]
 cases h
 simp only [seval,FMB,List.append_eq,List.cons_append,List.nil_append,hb71]
 refine .region fun e h=>?_
 simp only [seval,EMB,List.append_eq,List.cons_append,List.nil_append,hb71]
 cases h
 simp only [seval,FMB,List.append_eq,List.cons_append,List.nil_append,hb71]
 intro v6
 refine Mir.toK (.cond rfl (fun hb73=>?_) (fun hb73=>?_))
 refine .seqK (.bind fun s5 q74=>?_)
 replace q74 := cutT_ok q74
 simp only [xLC,xLN,Nat.zero_add,nA] at q74
 refine .region fun e h=>?_
 simp only [seval,EMB,und_9,q74,Nat.le_refl,and_true,true_and,dm,tm,List.append_eq,List.cons_append,List.nil_append]
 refine mU e (.ret fun e h=>?_) h
 cases h
 simp only [seval,FMB,List.append_eq,List.cons_append,List.nil_append,Tryz.results89]
 refine .skip fun e h=>?_
 cases h
 simp only [seval,FMB,List.append_eq,List.cons_append,List.nil_append,Tryz.results89]
 refine .skip fun e h=>?_
 cases h
 simp only [seval,FMB,List.append_eq,List.cons_append,List.nil_append,Tryz.results89]
 intro v7
 refine Mir.toK (.sR fun e h=>?_)
 simp only [seval,EMB,List.append_eq,List.cons_append,List.nil_append]
 refine mU e (.seqK (.sR fun e h=>?_)) h
 simp only [seval,EMB,List.append_eq,List.cons_append,List.nil_append]
 refine mU e (.cond rfl (fun hb75=>?_) (fun hb75=>?_)) h
 refine .seqK (.guard fun q76=>?_)
 replace q76 := ne_of q76
 refine .region fun e h=>?_
 simp only [seval,EMB,und_9,q76,List.append_eq,List.cons_append,List.nil_append]
 refine mU e (.sR fun e h=>?_) h
 simp only [seval,EMB,List.append_eq,List.cons_append,List.nil_append]
 refine mU e (.cond rfl (fun hb77=>?_) (fun hb77=>?_)) h
 exact Mir.no
 exact Mir.no
 exact Mir.no
def it_Format (a0 : ApiInt) : Option (List UInt8) := if ((a0.Limbs.length : Int) == 0) = true then some [48] else bindO (if a0.Neg = true then guardO (okLen 1) ( some [45]) else some []) fun (v1 : (List UInt8)) => bindO (gt a0.Limbs (IntKind.i64.wrap ((a0.Limbs.length : Int) - 1))) fun (e1 : Int) => bindO (strconv_FormatUint (IntKind.u64.wrap e1) 10) fun (y1 : (List UInt8)) => guardO (okLen (v1.length + y1.length)) ( bindO (loopX (fun (v2 : Int × (List UInt8)) => if (decide (v2.1 ≥ 0)) = true then bindO (gt a0.Limbs v2.1) fun (e2 : Int) => bindO (strconv_FormatUint (IntKind.u64.wrap e2) 10) fun (y2 : (List UInt8)) => bindO (strings_Repeat [48] (IntKind.i64.wrap (9 - (y2.length : Int)))) fun (y3 : (List UInt8)) => guardO (okLen (v2.2.length + y3.length)) ( guardO (okLen ((v2.2 ++ y3).length + y2.length)) ( some (.go (IntKind.i64.wrap (v2.1 - 1), v2.2 ++ y3 ++ y2)))) else some (.ret v2.2)) fuel (IntKind.i64.wrap ((a0.Limbs.length : Int) - 2), v1 ++ y1)) fun (v3 : (List UInt8)) => some v3)
theorem it_Format_spec {a0 : ApiInt} {y : (List UInt8)} (h : it_Format a0 = some y) : Spec gP 118 [.agg [.d (.bool a0.Neg), .d (.list (List.map (eInt .u32) a0.Limbs))]] (.d (.str y)) := by
 refine spec_mir Tryz.func118 rfl (by kernel_rfl) (by kernel_rfl) (fun y : (List UInt8) => .d (.str y)) ?_ h
 unfold it_Format
 simp only [List.replicate, List.length, nS, nA, Tryz.ntmps118, SV]
 refine .sR fun e h=>?_
 simp only [seval,EMB,eInt]
 refine mU e (.sR fun e h=>?_) h
 simp only [seval,EMB,fld_29_1,sz_27,ag_27,und_27,eInt]
 refine mU e (.seqK (.sR fun e h=>?_)) h
 simp only [seval,EMB,eInt]
 refine mU e (.cond rfl (fun hb2=>?_) (fun hb2=>?_)) h
 refine .sR fun e h=>?_
 simp only [seval,EMB,eInt]
 refine mU e (.ret fun e h=>?_) h
 cases h
 simp only [seval,FMB,eInt,Tryz.results118]
 refine .skip (Mir.toK (.seqK (.regionW fun e h=>regW.alt 0 rfl ?_)))
 simp only [seval,EMB,w_none,w_eq,eInt]
 refine alt_allocB (e := 5) (zv := .agg #[.pointer none,.slice none 0 0]) rfl (by kernel_rfl) rfl (regW.of ?_)
 simp only [seval,EMB,w_none,w_eq,eInt]
 refine mU e (.seqK (.sR fun e h=>?_)) h
 simp only [seval,EMB,fld_29_0,sz_4,ag_4,eInt]
 refine mU e (Mir.joinO (fun v1 : (List UInt8)=>([U,.ptr 0 0,U,.d (.int .i64 (a0.Limbs.length : Int)),.ptr 1 0] ++ us 40)) (fun v1=>⟨[[.d (.bool a0.Neg),.d (.list (List.map (eInt .u32) a0.Limbs))],[.adr 1,.own 0 (List.map byteE v1)]],[(5,v1.length)]⟩) (fun _=>rfl) ?_ ?_) h
 refine .cond rfl (fun hb5=>?_) (fun hb5=>?_)
 refine .guard fun q6=>.region fun e h=>?_
 simp only [seval,EMB,eInt]
 refine specS_wbN (b := 45) (n := ([45]).length) rfl rfl (lns_at (by simp only [List.length_map,List.length_append,List.length_nil,List.length_cons,List.map_nil,List.map_cons,xOS,xON] <;> omega)) (ok2z q6 (by simp only [List.length_map,List.length_append,List.length_nil,List.length_cons,List.map_nil,List.map_cons,xOS,xON] <;> omega) rfl) (by simp only [List.length_map,List.length_append,List.length_nil,List.length_cons,List.map_nil,List.map_cons,xOS,xON] <;> omega) ?_
 simp only [seval,EMB,eInt]
 cases h
 simp only [seval,FMB,eInt,Tryz.results118]
 refine .skip fun e h=>?_
 cases h
 simp only [seval,FMB,eInt,Tryz.results118]
 intro v1
 refine Mir.toK (.seqK (.bind fun e1 q7=>?_))
 replace q7 := gt_ok q7
 refine .bind fun y1 hy8=>.guard fun q9=>.region fun e h=>?_
 simp only [seval,EMB,fld_29_1,sz_27,ag_27,und_27,sz_73,q7,ag_73,und_73,und_79,eInt]
 refine SpecS.by (strconv_FormatUint_spec hy8) (by simp only [seval,FMB,eInt]) ?_
 simp only [seval,EMB,eInt]
 refine specS_wsN (n := (v1 ++ y1).length) rfl (lns_at (by simp only [List.length_map,List.length_append,List.length_nil,List.length_cons,List.map_nil,List.map_cons,xOS,xON] <;> omega)) (ok2 q9 (by simp only [List.length_map,List.length_append,List.length_nil,List.length_cons,List.map_nil,List.map_cons,xOS,xON] <;> omega) rfl) (by simp only [List.length_map,List.length_append,List.length_nil,List.length_cons,List.map_nil,List.map_cons,xOS,xON] <;> omega) ?_
 simp only [seval,EMB,eInt]
 refine mU e (.seqK (.sR fun e h=>?_)) h
 simp only [seval,EMB,eInt]
 refine mU e (Mir.joinO (fun v3 : (List UInt8)=>([U,U,U,U,.ptr 1 0] ++ us 40)) (fun v3=>⟨[[.d (.bool a0.Neg),.d (.list (List.map (eInt .u32) a0.Limbs))],[.adr 1,.own 0 (List.map byteE v3)]],[(5,v3.length)]⟩) (fun _=>rfl) ?_ ?_) h
 refine .block (Mir.loop (fun v2 : Int × (List UInt8)=>([U,.ptr 0 0,U,U,.ptr 1 0,.d (.int .i64 v2.1)] ++ us 39)) (fun v2=>⟨[[.d (.bool a0.Neg),.d (.list (List.map (eInt .u32) a0.Limbs))],[.adr 1,.own 0 (List.map byteE v2.2)]],[(5,v2.2.length)]⟩) (fun _=>rfl) (by simp only [seval,FMB,eInt]) (by simp only [seval,FMB,eInt]) fun v2=>.seqK (.sR fun e h=>?_))
 simp only [seval,EMB,eInt]
 refine mU e (.cond rfl (fun hb71=>?_) (fun hb71=>?_)) h
 refine .skip (Mir.toK (.seqK (.block (.seqK (.bind fun e2 q77=>?_)))))
 replace q77 := gt_ok q77
 refine .bind fun y2 hy78=>.region fun e h=>?_
 simp only [seval,EMB,fld_29_1,sz_27,ag_27,und_27,sz_73,q77,ag_73,und_73,und_79,eInt]
 refine SpecS.by (strconv_FormatUint_spec hy78) (by simp only [seval,FMB,eInt]) ?_
 simp only [seval,EMB,eInt]
 refine mU e (.seqK (.bind fun y3 hy79=>.guard fun q80=>.region fun e h=>?_)) h
 simp only [seval,EMB,und_9,eInt]
 refine SpecS.by (strings_Repeat_spec hy79) (by simp only [seval,FMB,eInt]) ?_
 simp only [seval,EMB,eInt]
 refine specS_wsN (n := (v2.2 ++ y3).length) rfl (lns_at (by simp only [List.length_map,List.length_append,List.length_nil,List.length_cons,List.map_nil,List.map_cons,xOS,xON] <;> omega)) (ok2 q80 (by simp only [List.length_map,List.length_append,List.length_nil,List.length_cons,List.map_nil,List.map_cons,xOS,xON] <;> omega) rfl) (by simp only [List.length_map,List.length_append,List.length_nil,List.length_cons,List.map_nil,List.map_cons,xOS,xON] <;> omega) ?_
 simp only [seval,EMB,eInt]
 refine mU e (.guard fun q81=>.region fun e h=>?_) h
 simp only [seval,EMB,eInt]
 refine specS_wsN (n := (v2.2 ++ y3 ++ y2).length) rfl (lns_at (by simp only [List.length_map,List.length_append,List.length_nil,List.length_cons,List.map_nil,List.map_cons,xOS,xON] <;> omega)) (ok2 q81 (by simp only [List.length_map,List.length_append,List.length_nil,List.length_cons,List.map_nil,List.map_cons,xOS,xON] <;> omega) rfl) (by simp only [List.length_map,List.length_append,List.length_nil,List.length_cons,List.map_nil,List.map_cons,xOS,xON] <;> omega) ?_
 simp only [seval,EMB,eInt]
 refine mU e (.region fun e h=>?_) h
 simp only [seval,EMB,eInt]
 cases h
 simp only [seval,FMB,eInt,Tryz.results118]
 refine .exit fun e h=>?_
 cases h
 simp only [seval,FMB,eInt,Tryz.results118]
 intro v3
 refine Mir.toK (.sR fun e h=>?_)
 simp only [seval,EMB,eInt]
 refine specS_st rfl (lns_at (by simp only [List.length_map,List.length_append,List.length_nil,List.length_cons,List.map_nil,List.map_cons,xOS,xON] <;> omega)) ?_
 simp only [seval,EMB,eInt]
 refine mU e (.ret fun e h=>?_) h
 cases h
 simp only [seval,FMB,eInt,Tryz.results118]
def dc_pointed (a0 : ApiInt) (a1 : Int) : Option (List UInt8) := bindO (it_Format a0) fun (y1 : (List UInt8)) => bindO (it_Sign a0) fun (y2 : Int) => bindO (if (decide (y2 < 0)) = true then bindO (cutF y1 1) fun (s1 : (List UInt8)) => some (s1, [45]) else some (y1, [])) fun (v1 : (List UInt8) × (List UInt8)) => if (a1 == 0) = true then guardO (okStr v1.2 v1.1) ( some (v1.2 ++ v1.1)) else bindO (if (decide ((v1.1.length : Int) ≤ a1)) = true then bindO (strings_Repeat [48] (IntKind.i64.wrap ((IntKind.i64.wrap (a1 + 1)) - (v1.1.length : Int)))) fun (y3 : (List UInt8)) => guardO (okStr y3 v1.1) ( some (y3 ++ v1.1)) else some v1.1) fun (v2 : (List UInt8)) => bindO (cutT v2 (IntKind.i64.wrap ((v2.length : Int) - a1))) fun (s2 : (List UInt8)) => guardO (okStr v1.2 s2) ( guardO (okStr (v1.2 ++ s2) [46]) ( bindO (cutF v2 (IntKind.i64.wrap ((v2.length : Int) - a1))) fun (s3 : (List UInt8)) => guardO (okStr ((v1.2 ++ s2) ++ [46]) s3) ( some (((v1.2 ++ s2) ++ [46]) ++ s3))))
theorem dc_pointed_spec {a0 : ApiInt} {a1 : Int} {y : (List UInt8)} (h : dc_pointed a0 a1 = some y) : Spec gP 72 [.agg [.d (.bool a0.Neg), .d (.list (List.map (eInt .u32) a0.Limbs))], .d (.int .i64 a1)] (.d (.str y)) := by
 refine spec_mir Tryz.func72 rfl (by kernel_rfl) (by kernel_rfl) (fun y : (List UInt8) => .d (.str y)) ?_ h
 unfold dc_pointed
 simp only [List.replicate, List.length, nS, nA, Tryz.ntmps72, SV]
 refine .sR fun e h=>?_
 simp only [seval,EMB,eInt]
 refine mU e (.seqK (.bind fun y1 hy1=>.region fun e h=>?_)) h
 simp only [seval,EMB,ag_29,sz_29,eInt]
 refine SpecS.by (it_Format_spec hy1) (by simp only [seval,FMB,eInt]) ?_
 simp only [seval,EMB,eInt]
 refine mU e (.sR fun e h=>?_) h
 simp only [seval,EMB,eInt]
 refine mU e (.seqK (.seqK (.bind fun y2 hy2=>.region fun e h=>?_))) h
 simp only [seval,EMB,ag_29,sz_29,eInt]
 refine SpecS.by (it_Sign_spec hy2) (by simp only [seval,FMB,eInt]) ?_
 simp only [seval,EMB,eInt]
 refine mU e (Mir.joinO (fun v1 : (List UInt8) × (List UInt8)=>([U,.d (.int .i64 a1),U,U,U,.d (.str v1.1),.d (.str v1.2)] ++ us 40)) (fun v1=>⟨[[.d (.bool a0.Neg),.d (.list (List.map (eInt .u32) a0.Limbs))]],[]⟩) (fun _=>rfl) ?_ ?_) h
 refine .cond rfl (fun hb5=>?_) (fun hb5=>?_)
 refine .bind fun s1 q6=>?_
 replace q6 := cutF_ok q6
 simp only [Int.reduceToNat,Int.reduceLT,Nat.sub_zero,dp0] at q6
 refine .regionD [] (by kernel_rfl) fun e h=>?_
 simp only [seval,EMB,SB,und_9,q6,Nat.le_refl,and_true,true_and,dm,tm,eInt]
 cases h
 simp only [seval,FMB,eInt,Tryz.results72]
 refine .skip fun e h=>?_
 cases h
 simp only [seval,FMB,eInt,Tryz.results72]
 intro v1
 refine Mir.toK (.seqK (.sR fun e h=>?_))
 simp only [seval,EMB,eInt]
 refine mU e (.cond rfl (fun hb9=>?_) (fun hb9=>?_)) h
 refine .seqK (.guard fun q10=>?_)
 replace q10 := okStr_ok q10
 refine .region fun e h=>?_
 simp only [seval,EMB,q10,eInt]
 refine mU e (.ret fun e h=>?_) h
 cases h
 simp only [seval,FMB,eInt,Tryz.results72]
 refine .skip (Mir.toK (.seqK (.sR fun e h=>?_)))
 simp only [seval,EMB,und_9,eInt]
 refine mU e (Mir.joinO (fun v2 : (List UInt8)=>([U,.d (.int .i64 a1),U,U,U,.d (.str v2),.d (.str v1.2)] ++ us 40)) (fun v2=>⟨[[.d (.bool a0.Neg),.d (.list (List.map (eInt .u32) a0.Limbs))]],[]⟩) (fun _=>rfl) ?_ ?_) h
 refine .cond rfl (fun hb14=>?_) (fun hb14=>?_)
 refine .bind fun y3 hy15=>.guard fun q16=>?_
 replace q16 := okStr_ok q16
 refine .region fun e h=>?_
 simp only [seval,EMB,und_9,eInt]
 refine SpecS.by (strings_Repeat_spec hy15) (by simp only [seval,FMB,eInt]) ?_
 simp only [seval,EMB,q16,eInt]
 cases h
 simp only [seval,FMB,eInt,Tryz.results72]
 refine .skip fun e h=>?_
 cases h
 simp only [seval,FMB,eInt,Tryz.results72]
 intro v2
 refine Mir.toK (.seqK (.bind fun s2 q17=>?_))
 replace q17 := cutT_ok q17
 refine .guard fun q18=>?_
 replace q18 := okStr_ok q18
 refine .guard fun q19=>?_
 replace q19 := okStr_ok q19
 try simp only [lm,xNA,xCA,xAN,xLC,xLN,xAC,xAL,nA,Nat.zero_add] at q19
 refine .bind fun s3 q20=>?_
 replace q20 := cutF_ok q20
 refine .guard fun q21=>?_
 replace q21 := okStr_ok q21
 try simp only [lm,xNA,xCA,xAN,xLC,xLN,xAC,xAL,nA,Nat.zero_add] at q21
 refine .regionD [] (by kernel_rfl) fun e h=>?_
 simp only [seval,EMB,SB,und_9,q17,Nat.le_refl,and_true,true_and,dm,tm,q18,q19,q20,q21,eInt]
 refine mU e (.ret fun e h=>?_) h
 cases h
 simp only [seval,FMB,eInt,Tryz.results72]
def dc_Format (a0 : ApiRat) (a1 : Int) : Option ((List UInt8) × Int) := if ((decide (a1 < 0)) || (decide (a1 > 30))) = true then some ([], 1) else bindO (dc_times a0 a1) fun (y1 : ApiRat) => bindO (dc_round y1) fun (y2 : ApiInt) => bindO (dc_pointed y2 a1) fun (y3 : (List UInt8)) => some (y3, 0)
theorem dc_Format_spec {a0 : ApiRat} {a1 : Int} {y : (List UInt8) × Int} (h : dc_Format a0 a1 = some y) : Spec gP 31 [.agg [.d (.bool a0.Num.Neg), .d (.list (List.map (eInt .u32) a0.Num.Limbs)), .d (.bool a0.Den.Neg), .d (.list (List.map (eInt .u32) a0.Den.Limbs))], .d (.int .i64 a1)] (.tuple [.d (.str y.1), .d (.int .i64 y.2)]) := by
 refine spec_mir Tryz.func31 rfl (by kernel_rfl) (by kernel_rfl) (fun y : (List UInt8) × Int => .tuple [.d (.str y.1), .d (.int .i64 y.2)]) ?_ h
 unfold dc_Format
 simp only [List.replicate, List.length, nS, nA, Tryz.ntmps31, SV]
 refine .sR fun e h=>?_
 simp only [seval,EMB,eInt]
 refine mU e (.seqK (.seqK (.joinV ([U,.d (.int .i64 a1),.ptr 0 0,U,U,U,U,U,U,U,U,.d (.bool ((decide (a1 < 0)) || (decide (a1 > 30))))] ++ us 6) ⟨[[.d (.bool a0.Num.Neg),.d (.list (List.map (eInt .u32) a0.Num.Limbs)),.d (.bool a0.Den.Neg),.d (.list (List.map (eInt .u32) a0.Den.Limbs))]],[]⟩ rfl ?_ ?_))) h
 refine SWs.region ?_
 rcases Bool.eq_false_or_eq_true (decide (a1 < 0)) with hb1 | hb1
 simp only [seval,EMB,SL,PB,hb1,eInt]
 simp only [seval,EMB,SL,PB,hb1,eInt]
 refine Mir.toK (.cond rfl (fun hb3=>?_) (fun hb3=>?_))
 refine .sR fun e h=>?_
 simp only [seval,EMB,eInt]
 refine mU e (.ret fun e h=>?_) h
 cases h
 simp only [seval,FMB,eInt,Tryz.results31]
 refine .skip (Mir.toK (.seqK (.bind fun y1 hy4=>.bind fun y2 hy5=>.bind fun y3 hy6=>.region fun e h=>?_)))
 simp only [seval,EMB,ag_31,sz_31,eInt]
 refine SpecS.by (dc_times_spec hy4) (by simp only [seval,FMB,eInt]) ?_
 simp only [seval,EMB,eInt]
 refine SpecS.by (dc_round_spec hy5) (by simp only [seval,FMB,eInt]) ?_
 simp only [seval,EMB,eInt]
 refine SpecS.by (dc_pointed_spec hy6) (by simp only [seval,FMB,eInt]) ?_
 simp only [seval,EMB,eInt]
 refine mU e (.ret fun e h=>?_) h
 cases h
 simp only [seval,FMB,eInt,Tryz.results31]
def dc_short (a0 : (List UInt8)) : Option ((List UInt8) × Bool) := if (decide ((a0.length : Int) > 1000)) = true then some ([], false) else some (a0, true)
theorem dc_short_spec {a0 : (List UInt8)} {y : (List UInt8) × Bool} (h : dc_short a0 = some y) : Spec gP 84 [.d (.str a0)] (.tuple [.d (.str y.1), .d (.bool y.2)]) := by
 refine spec_mir Tryz.func84 rfl (by kernel_rfl) (by kernel_rfl) (fun y : (List UInt8) × Bool => .tuple [.d (.str y.1), .d (.bool y.2)]) ?_ h
 unfold dc_short
 simp only [List.replicate, List.length, nS, nA, Tryz.ntmps84, SV]
 refine .sR fun e h=>?_
 simp only [seval,EMB]
 refine mU e (.seqK (.sR fun e h=>?_)) h
 simp only [seval,EMB,und_9]
 refine mU e (.cond rfl (fun hb2=>?_) (fun hb2=>?_)) h
 refine .sR fun e h=>?_
 simp only [seval,EMB]
 refine mU e (.ret fun e h=>?_) h
 cases h
 simp only [seval,FMB,Tryz.results84]
 refine .skip (Mir.toK (.sR fun e h=>?_))
 simp only [seval,EMB]
 refine mU e (.ret fun e h=>?_) h
 cases h
 simp only [seval,FMB,Tryz.results84]
def dc_Exact (a0 : ApiRat) : Option ((List UInt8) × Bool) := bindO (it_FromInt64 1) fun (y1 : ApiInt) => bindX (loopX (fun (v1 : Int × ApiInt) => if (decide (v1.1 ≤ 30)) = true then bindO (it_DivMod v1.2 a0.Den) fun (y2 : ApiInt × ApiInt × Int) => bindO (it_Sign y2.2.1) fun (y3 : Int) => if (y3 == 0) = true then bindO (dc_times a0 v1.1) fun (y4 : ApiRat) => bindO (dc_pointed y4.Num v1.1) fun (y5 : (List UInt8)) => bindO (dc_short y5) fun (y6 : (List UInt8) × Bool) => some (.ret (.ret (y6.1, y6.2))) else bindO (it_FromInt64 10) fun (y7 : ApiInt) => bindO (it_Mul v1.2 y7) fun (y8 : ApiInt) => some (.go (IntKind.i64.wrap (v1.1 + 1), y8)) else some (.ret (.go v1.2))) fuel (0, y1)) fun (v2 : ApiInt) => some ([], false)
theorem dc_Exact_spec {a0 : ApiRat} {y : (List UInt8) × Bool} (h : dc_Exact a0 = some y) : Spec gP 39 [.agg [.d (.bool a0.Num.Neg), .d (.list (List.map (eInt .u32) a0.Num.Limbs)), .d (.bool a0.Den.Neg), .d (.list (List.map (eInt .u32) a0.Den.Limbs))]] (.tuple [.d (.str y.1), .d (.bool y.2)]) := by
 refine spec_mir Tryz.func39 rfl (by kernel_rfl) (by kernel_rfl) (fun y : (List UInt8) × Bool => .tuple [.d (.str y.1), .d (.bool y.2)]) ?_ h
 unfold dc_Exact
 simp only [List.replicate, List.length, nS, nA, Tryz.ntmps39, SV]
 refine .sR fun e h=>?_
 simp only [seval,EMB,eInt]
 refine mU e (.seqK (.bind fun y1 hy1=>.region fun e h=>?_)) h
 simp only [seval,EMB,eInt]
 refine SpecS.by (it_FromInt64_spec hy1) (by simp only [seval,FMB,eInt]) ?_
 simp only [seval,EMB,zero_29,sz_29,eInt]
 refine mU e (.sR fun e h=>?_) h
 simp only [seval,EMB,ag_29,sz_29,zero_29,eInt]
 refine mU e (.seqK (.sR fun e h=>?_)) h
 simp only [seval,EMB,eInt]
 refine mU e (Mir.join (fun v2 : ApiInt=>(us 43)) (fun v2=>⟨[[.d (.bool a0.Num.Neg),.d (.list (List.map (eInt .u32) a0.Num.Limbs)),.d (.bool a0.Den.Neg),.d (.list (List.map (eInt .u32) a0.Den.Limbs))],[.d (.bool y1.Neg),.d (.list (List.map (eInt .u32) y1.Limbs))],[.d (.bool v2.Neg),.d (.list (List.map (eInt .u32) v2.Limbs))]],[]⟩) (fun _=>rfl) ?_ ?_) h
 refine .block (Mir.loop (fun v1 : Int × ApiInt=>([U,.ptr 0 0,U,U,U,.ptr 2 0,.d (.int .i64 v1.1)] ++ us 36)) (fun v1=>⟨[[.d (.bool a0.Num.Neg),.d (.list (List.map (eInt .u32) a0.Num.Limbs)),.d (.bool a0.Den.Neg),.d (.list (List.map (eInt .u32) a0.Den.Limbs))],[.d (.bool y1.Neg),.d (.list (List.map (eInt .u32) y1.Limbs))],[.d (.bool v1.2.Neg),.d (.list (List.map (eInt .u32) v1.2.Limbs))]],[]⟩) (fun _=>rfl) (by simp only [seval,FMB,eInt]) (by simp only [seval,FMB,eInt]) fun v1=>.seqK (.sR fun e h=>?_))
 simp only [seval,EMB,eInt]
 refine mU e (.cond rfl (fun h1=>?_) (fun h1=>?_)) h
 refine .skip (Mir.toK (.seqK (.block (.seqK (.seqK (.bind fun y2 h2=>.region fun e h=>?_))))))
 simp only [seval,EMB,ag_29,sz_29,fld_31_1,eInt]
 refine SpecS.by (it_DivMod_spec h2) (by simp only [seval,FMB,eInt]) ?_
 simp only [seval,EMB,zero_29,sz_29,eInt]
 refine mU e (.seqK (.bind fun y3 h3=>.region fun e h=>?_)) h
 simp only [seval,EMB,ag_29,sz_29,eInt]
 refine SpecS.by (it_Sign_spec h3) (by simp only [seval,FMB,eInt]) ?_
 simp only [seval,EMB,eInt]
 refine mU e (.cond rfl (fun h4=>?_) (fun h4=>?_)) h
 refine .seqK (.bind fun y4 h5=>.region fun e h=>?_)
 simp only [seval,EMB,ag_31,sz_31,eInt]
 refine SpecS.by (dc_times_spec h5) (by simp only [seval,FMB,eInt]) ?_
 simp only [seval,EMB,fld_31_0,ag_29,sz_29,zero_29,eInt]
 refine mU e (.seqK (.bind fun y5 h6=>.region fun e h=>?_)) h
 simp only [seval,EMB,ag_29,sz_29,eInt]
 refine SpecS.by (dc_pointed_spec h6) (by simp only [seval,FMB,eInt]) ?_
 simp only [seval,EMB,eInt]
 refine mU e (.seqK (.bind fun y6 h7=>.region fun e h=>?_)) h
 simp only [seval,EMB,eInt]
 refine SpecS.by (dc_short_spec h7) (by simp only [seval,FMB,eInt]) ?_
 simp only [seval,EMB,eInt]
 refine mU e (.ret fun e h=>?_) h
 cases h
 simp only [seval,FMB,eInt,Tryz.results39]
 refine .skip (Mir.toK (.bind fun y7 h8=>.bind fun y8 h9=>.regionD [] (by kernel_rfl) fun e h=>?_))
 simp only [seval,EMB,SB,ag_29,sz_29,eInt]
 refine Spec.by (it_FromInt64_spec h8) (by simp only [seval,FMB,eInt]) ?_
 simp only [seval,EMB,SB,eInt]
 refine Spec.by (it_Mul_spec h9) (by simp only [seval,FMB,eInt]) ?_
 simp only [seval,EMB,SB,sz_29,eInt]
 refine mU e (.region fun e h=>?_) h
 simp only [seval,EMB,eInt]
 cases h
 simp only [seval,FMB,eInt,Tryz.results39]
 refine .exit fun e h=>?_
 cases h
 simp only [seval,FMB,eInt,Tryz.results39]
 intro v2
 refine Mir.toK (.sR fun e h=>?_)
 simp only [seval,EMB,eInt]
 refine mU e (.ret fun e h=>?_) h
 cases h
 simp only [seval,FMB,eInt,Tryz.results39]
def l06_awake_c1 (a0 : ApiInt) (a1 : Int) : Option Bool := bindO (r01_FromInt64 a1) fun (y1 : ApiInt) => bindO (r01_Same a0 y1) fun (y2 : Bool) => some y2
theorem l06_awake_c1_spec {a0 : ApiInt} {a1 : Int} {y : Bool} (h : l06_awake_c1 a0 a1 = some y) : Spec gP 47 [.agg [.d (.bool a0.Neg), .d (.list (List.map (eInt .u32) a0.Limbs))], .d (.int .i64 a1)] (.d (.bool y)) := by
 refine spec_mir Tryz.func47 rfl (by kernel_rfl) (by kernel_rfl) (fun y : Bool => .d (.bool y)) ?_ h
 unfold l06_awake_c1
 simp only [List.replicate, List.length, nS, nA, Tryz.ntmps47, SV]
 refine .sR fun e h=>?_
 simp only [seval,EMB,eInt]
 refine mU e (.seqK (.bind fun y1 hy1=>.bind fun y2 hy2=>.regionD [] (by kernel_rfl) fun e h=>?_)) h
 simp only [seval,EMB,SB,ag_29,sz_29,eInt]
 refine Spec.by (r01_FromInt64_spec hy1) (by simp only [seval,FMB,eInt]) ?_
 simp only [seval,EMB,SB,eInt]
 refine Spec.by (r01_Same_spec hy2) (by simp only [seval,FMB,eInt]) ?_
 simp only [seval,EMB,SB,eInt]
 refine mU e (.ret fun e h=>?_) h
 cases h
 simp only [seval,FMB,eInt,Tryz.results47]
def dc_Millimetres (a0 : Int) : Option (List UInt8) := bindO (if (decide (a0 < 0)) = true then some ([45], IntKind.u64.wrap (0 - (IntKind.u64.wrap a0))) else some ([], IntKind.u64.wrap a0)) fun (v1 : (List UInt8) × Int) => bindO (strconv_FormatUint (IntKind.u64.wrap (Int.tdiv v1.2 1000)) 10) fun (y1 : (List UInt8)) => guardO (okStr v1.1 y1) ( bindO (if ((Int.tmod v1.2 1000) != 0) = true then bindO (strconv_FormatUint (IntKind.u64.wrap (1000 + (Int.tmod v1.2 1000))) 10) fun (y2 : (List UInt8)) => bindO (cutF y2 1) fun (s1 : (List UInt8)) => bindO (strings_TrimRight s1 [48]) fun (y3 : (List UInt8)) => guardO (okStr [46] y3) ( guardO (okStr (v1.1 ++ y1) ([46] ++ y3)) ( some ((v1.1 ++ y1) ++ ([46] ++ y3)))) else some (v1.1 ++ y1)) fun (v2 : (List UInt8)) => some v2)
theorem dc_Millimetres_spec {a0 : Int} {y : (List UInt8)} (h : dc_Millimetres a0 = some y) : Spec gP 41 [.d (.int .i64 a0)] (.d (.str y)) := by
 refine spec_mir Tryz.func41 rfl (by kernel_rfl) (by kernel_rfl) (fun y : (List UInt8) => .d (.str y)) ?_ h
 unfold dc_Millimetres
 simp only [List.replicate, List.length, nS, nA, Tryz.ntmps41, SV]
 refine .sR fun e h=>?_
 simp only [seval,EMB]
 refine mU e (.sR fun e h=>?_) h
 simp only [seval,EMB,und_2,und_79]
 refine mU e (.seqK (.sR fun e h=>?_)) h
 simp only [seval,EMB]
 refine mU e (Mir.joinO (fun v1 : (List UInt8) × Int=>([U,U,U,.d (.str v1.1),.d (.int .u64 v1.2)] ++ us 26)) (fun v1=>⟨[],[]⟩) (fun _=>rfl) ?_ ?_) h
 refine .cond rfl (fun hb2=>?_) (fun hb2=>?_)
 refine .region fun e h=>?_
 simp only [seval,EMB,und_2,und_79]
 cases h
 simp only [seval,FMB,Tryz.results41]
 refine .skip fun e h=>?_
 cases h
 simp only [seval,FMB,Tryz.results41]
 intro v1
 refine Mir.toK (.seqK (.bind fun y1 hy3=>.guard fun q4=>?_))
 replace q4 := okStr_ok q4
 refine .region fun e h=>?_
 simp only [seval,EMB]
 refine SpecS.by (strconv_FormatUint_spec hy3) (by simp only [seval,FMB]) ?_
 simp only [seval,EMB,q4]
 refine mU e (.seqK (.sR fun e h=>?_)) h
 simp only [seval,EMB]
 refine mU e (Mir.joinO (fun v2 : (List UInt8)=>([U,U,U,U,U,.d (.str v2)] ++ us 25)) (fun v2=>⟨[],[]⟩) (fun _=>rfl) ?_ ?_) h
 refine .cond rfl (fun hb11=>?_) (fun hb11=>?_)
 refine .bind fun y2 hy12=>.bind fun s1 q13=>?_
 replace q13 := cutF_ok q13
 simp only [Int.reduceToNat,Int.reduceLT,Nat.sub_zero,dp0] at q13
 refine .bind fun y3 hy14=>.guard fun q15=>?_
 replace q15 := okStr_ok q15
 try simp only [lm,xNA,xCA,xAN,xLC,xLN,xAC,xAL,nA,Nat.zero_add] at q15
 refine .guard fun q16=>?_
 replace q16 := okStr_ok q16
 try simp only [lm,xNA,xCA,xAN,xLC,xLN,xAC,xAL,nA,Nat.zero_add] at q16
 refine .region fun e h=>?_
 simp only [seval,EMB]
 refine SpecS.by (strconv_FormatUint_spec hy12) (by simp only [seval,FMB]) ?_
 simp only [seval,EMB,und_9,q13,Nat.le_refl,and_true,true_and,dm,tm]
 refine SpecS.by (strings_TrimRight_spec hy14) (by simp only [seval,FMB]) ?_
 simp only [seval,EMB,q15,q16]
 cases h
 simp only [seval,FMB,Tryz.results41]
 refine .skip fun e h=>?_
 cases h
 simp only [seval,FMB,Tryz.results41]
 intro v2
 refine Mir.toK (.sR fun e h=>?_)
 simp only [seval,EMB]
 refine mU e (.ret fun e h=>?_) h
 cases h
 simp only [seval,FMB,Tryz.results41]
def l06_awake  : Option Bool := bindO (r02_Frac 5 4) fun (y1 : ApiRat) => bindO (dc_Format y1 1) fun (y2 : (List UInt8) × Int) => bindO (r02_Frac (-5) 4) fun (y3 : ApiRat) => bindO (dc_Format y3 1) fun (y4 : (List UInt8) × Int) => bindO (r02_Frac 5 4) fun (y5 : ApiRat) => bindO (dc_Exact y5) fun (y6 : (List UInt8) × Bool) => bindO (r02_Frac 1 3) fun (y7 : ApiRat) => bindO (dc_Exact y7) fun (y8 : (List UInt8) × Bool) => bindO (r02_FromInt64 3) fun (y9 : ApiRat) => bindO (r02_FromInt64 (-1)) fun (y10 : ApiRat) => bindO (r02_FromInt64 2) fun (y11 : ApiRat) => bindO (r03_Make y9 y10 y11) fun (y12 : ApiRoot × Int) => bindO (if (y2.1 == [49, 46, 51]) = true then if (y2.2 == 0) = true then if (y4.1 == [45, 49, 46, 50]) = true then if (y4.2 == 0) = true then if (y6.1 == [49, 46, 50, 53]) = true then if y6.2 = true then if y8.2 = true then some false else bindO (r02_Frac (-1) 2) fun (y13 : ApiRat) => bindO (r03_FromRat y13) fun (y14 : ApiRoot) => bindO (dc_Nearest y14) fun (y15 : ApiInt) => bindO (l06_awake_c1 y15 0) fun (y16 : Bool) => if y16 = true then bindO (dc_Millimetres (-1500)) fun (y17 : (List UInt8)) => if (y17 == [45, 49, 46, 53]) = true then bindO (dc_Nearest y12.1) fun (y18 : ApiInt) => bindO (l06_awake_c1 y18 2) fun (y19 : Bool) => if y19 = true then bindO (dc_Down y12.1) fun (y20 : ApiInt) => bindO (l06_awake_c1 y20 1) fun (y21 : Bool) => if y21 = true then bindO (dc_Up y12.1) fun (y22 : ApiInt) => bindO (l06_awake_c1 y22 2) fun (y23 : Bool) => some y23 else some false else some false else some false else some false else some false else some false else some false else some false else some false else some false) fun (v1 : Bool) => some v1
theorem l06_awake_spec  {y : Bool} (h : l06_awake = some y) : Spec gP 10 [] (.d (.bool y)) := by
 refine spec_mir Tryz.func10 rfl (by kernel_rfl) (by kernel_rfl) (fun y : Bool => .d (.bool y)) ?_ h
 unfold l06_awake
 simp only [List.replicate, List.length, nS, nA, Tryz.ntmps10, SV]
 refine .sR fun e h=>?_
 simp only [seval,EMB]
 refine mU e (.seqK (.bind fun y1 hy1=>.bind fun y2 hy2=>.region fun e h=>?_)) h
 simp only [seval,EMB]
 refine SpecS.by (r02_Frac_spec hy1) (by simp only [seval,FMB]) ?_
 simp only [seval,EMB]
 refine SpecS.by (dc_Format_spec hy2) (by simp only [seval,FMB]) ?_
 simp only [seval,EMB]
 refine mU e (.seqK (.bind fun y3 hy3=>.bind fun y4 hy4=>.region fun e h=>?_)) h
 simp only [seval,EMB]
 refine SpecS.by (r02_Frac_spec hy3) (by simp only [seval,FMB]) ?_
 simp only [seval,EMB]
 refine SpecS.by (dc_Format_spec hy4) (by simp only [seval,FMB]) ?_
 simp only [seval,EMB]
 refine mU e (.seqK (.bind fun y5 hy5=>.bind fun y6 hy6=>.region fun e h=>?_)) h
 simp only [seval,EMB]
 refine SpecS.by (r02_Frac_spec hy5) (by simp only [seval,FMB]) ?_
 simp only [seval,EMB]
 refine SpecS.by (dc_Exact_spec hy6) (by simp only [seval,FMB]) ?_
 simp only [seval,EMB]
 refine mU e (.seqK (.bind fun y7 hy7=>.bind fun y8 hy8=>.region fun e h=>?_)) h
 simp only [seval,EMB]
 refine SpecS.by (r02_Frac_spec hy7) (by simp only [seval,FMB]) ?_
 simp only [seval,EMB]
 refine SpecS.by (dc_Exact_spec hy8) (by simp only [seval,FMB]) ?_
 simp only [seval,EMB]
 refine mU e (.seqK (.bind fun y9 hy9=>.bind fun y10 hy10=>.bind fun y11 hy11=>.bind fun y12 hy12=>.region fun e h=>?_)) h
 simp only [seval,EMB]
 refine SpecS.by (r02_FromInt64_spec hy9) (by simp only [seval,FMB]) ?_
 simp only [seval,EMB]
 refine SpecS.by (r02_FromInt64_spec hy10) (by simp only [seval,FMB]) ?_
 simp only [seval,EMB]
 refine SpecS.by (r02_FromInt64_spec hy11) (by simp only [seval,FMB]) ?_
 simp only [seval,EMB]
 refine SpecS.by (r03_Make_spec hy12) (by simp only [seval,FMB]) ?_
 simp only [seval,EMB,zero_33,sz_33]
 refine mU e (.sR fun e h=>?_) h
 simp only [seval,EMB]
 refine mU e (.seqK (Mir.joinO (fun v1 : Bool=>([.d (.bool v1)] ++ us 92)) (fun v1=>⟨[[.d (.bool y12.1.A.Num.Neg),.d (.list (List.map (eInt .u32) y12.1.A.Num.Limbs)),.d (.bool y12.1.A.Den.Neg),.d (.list (List.map (eInt .u32) y12.1.A.Den.Limbs)),.d (.bool y12.1.B.Num.Neg),.d (.list (List.map (eInt .u32) y12.1.B.Num.Limbs)),.d (.bool y12.1.B.Den.Neg),.d (.list (List.map (eInt .u32) y12.1.B.Den.Limbs)),.d (.bool y12.1.C.Num.Neg),.d (.list (List.map (eInt .u32) y12.1.C.Num.Limbs)),.d (.bool y12.1.C.Den.Neg),.d (.list (List.map (eInt .u32) y12.1.C.Den.Limbs))]],[]⟩) (fun _=>rfl) ?_ ?_)) h
 refine .ite (fun hb13=>?_) (fun hb13=>?_)
 refine .ite (fun hb14=>?_) (fun hb14=>?_)
 refine .ite (fun hb15=>?_) (fun hb15=>?_)
 refine .ite (fun hb16=>?_) (fun hb16=>?_)
 refine .ite (fun hb17=>?_) (fun hb17=>?_)
 refine .ite (fun hb18=>?_) (fun hb18=>?_)
 refine .ite (fun hb19=>?_) (fun hb19=>?_)
 refine .region fun e h=>?_
 simp only [seval,EMB,hb13,hb14,hb15,hb16,hb17,hb18,hb19]
 cases h
 simp only [seval,FMB,hb13,hb14,hb15,hb16,hb17,hb18,hb19]
 refine .bind fun y13 hy20=>.bind fun y14 hy21=>.bind fun y15 hy22=>.bind fun y16 hy23=>.ite (fun hb24=>?_) (fun hb24=>?_)
 refine .bind fun y17 hy25=>.ite (fun hb26=>?_) (fun hb26=>?_)
 refine .bind fun y18 hy27=>.bind fun y19 hy28=>.ite (fun hb29=>?_) (fun hb29=>?_)
 refine .bind fun y20 hy30=>.bind fun y21 hy31=>.ite (fun hb32=>?_) (fun hb32=>?_)
 refine .bind fun y22 hy33=>.bind fun y23 hy34=>.region fun e h=>?_
 simp only [seval,EMB,hb13,hb14,hb15,hb16,hb17,hb18,hb19,hb24,hb26,hb29,hb32]
 refine SpecS.by (r02_Frac_spec hy20) (by simp only [seval,FMB,hb13,hb14,hb15,hb16,hb17,hb18,hb19,hb24,hb26,hb29,hb32]) ?_
 simp only [seval,EMB,hb13,hb14,hb15,hb16,hb17,hb18,hb19,hb24,hb26,hb29,hb32]
 refine SpecS.by (r03_FromRat_spec hy21) (by simp only [seval,FMB,hb13,hb14,hb15,hb16,hb17,hb18,hb19,hb24,hb26,hb29,hb32]) ?_
 simp only [seval,EMB,hb13,hb14,hb15,hb16,hb17,hb18,hb19,hb24,hb26,hb29,hb32]
 refine SpecS.by (dc_Nearest_spec hy22) (by simp only [seval,FMB,hb13,hb14,hb15,hb16,hb17,hb18,hb19,hb24,hb26,hb29,hb32]) ?_
 simp only [seval,EMB,hb13,hb14,hb15,hb16,hb17,hb18,hb19,hb24,hb26,hb29,hb32]
 refine SpecS.by (l06_awake_c1_spec hy23) (by simp only [seval,FMB,hb13,hb14,hb15,hb16,hb17,hb18,hb19,hb24,hb26,hb29,hb32]) ?_
 simp only [seval,EMB,hb13,hb14,hb15,hb16,hb17,hb18,hb19,hb24,hb26,hb29,hb32]
 refine SpecS.by (dc_Millimetres_spec hy25) (by simp only [seval,FMB,hb13,hb14,hb15,hb16,hb17,hb18,hb19,hb24,hb26,hb29,hb32]) ?_
 simp only [seval,EMB,ag_33,sz_33,hb13,hb14,hb15,hb16,hb17,hb18,hb19,hb24,hb26,hb29,hb32]
 refine SpecS.by (dc_Nearest_spec hy27) (by simp only [seval,FMB,hb13,hb14,hb15,hb16,hb17,hb18,hb19,hb24,hb26,hb29,hb32]) ?_
 simp only [seval,EMB,hb13,hb14,hb15,hb16,hb17,hb18,hb19,hb24,hb26,hb29,hb32]
 refine SpecS.by (l06_awake_c1_spec hy28) (by simp only [seval,FMB,hb13,hb14,hb15,hb16,hb17,hb18,hb19,hb24,hb26,hb29,hb32]) ?_
 simp only [seval,EMB,ag_33,sz_33,hb13,hb14,hb15,hb16,hb17,hb18,hb19,hb24,hb26,hb29,hb32]
 refine SpecS.by (dc_Down_spec hy30) (by simp only [seval,FMB,hb13,hb14,hb15,hb16,hb17,hb18,hb19,hb24,hb26,hb29,hb32]) ?_
 simp only [seval,EMB,hb13,hb14,hb15,hb16,hb17,hb18,hb19,hb24,hb26,hb29,hb32]
 refine SpecS.by (l06_awake_c1_spec hy31) (by simp only [seval,FMB,hb13,hb14,hb15,hb16,hb17,hb18,hb19,hb24,hb26,hb29,hb32]) ?_
 simp only [seval,EMB,ag_33,sz_33,hb13,hb14,hb15,hb16,hb17,hb18,hb19,hb24,hb26,hb29,hb32]
 refine SpecS.by (dc_Up_spec hy33) (by simp only [seval,FMB,hb13,hb14,hb15,hb16,hb17,hb18,hb19,hb24,hb26,hb29,hb32]) ?_
 simp only [seval,EMB,hb13,hb14,hb15,hb16,hb17,hb18,hb19,hb24,hb26,hb29,hb32]
 refine SpecS.by (l06_awake_c1_spec hy34) (by simp only [seval,FMB,hb13,hb14,hb15,hb16,hb17,hb18,hb19,hb24,hb26,hb29,hb32]) ?_
 simp only [seval,EMB,hb13,hb14,hb15,hb16,hb17,hb18,hb19,hb24,hb26,hb29,hb32]
 cases h
 simp only [seval,FMB,hb13,hb14,hb15,hb16,hb17,hb18,hb19,hb24,hb26,hb29,hb32]
 refine .region fun e h=>?_
 simp only [seval,EMB,hb13,hb14,hb15,hb16,hb17,hb18,hb19,hb24,hb26,hb29,hb32]
 refine SpecS.by (r02_Frac_spec hy20) (by simp only [seval,FMB,hb13,hb14,hb15,hb16,hb17,hb18,hb19,hb24,hb26,hb29,hb32]) ?_
 simp only [seval,EMB,hb13,hb14,hb15,hb16,hb17,hb18,hb19,hb24,hb26,hb29,hb32]
 refine SpecS.by (r03_FromRat_spec hy21) (by simp only [seval,FMB,hb13,hb14,hb15,hb16,hb17,hb18,hb19,hb24,hb26,hb29,hb32]) ?_
 simp only [seval,EMB,hb13,hb14,hb15,hb16,hb17,hb18,hb19,hb24,hb26,hb29,hb32]
 refine SpecS.by (dc_Nearest_spec hy22) (by simp only [seval,FMB,hb13,hb14,hb15,hb16,hb17,hb18,hb19,hb24,hb26,hb29,hb32]) ?_
 simp only [seval,EMB,hb13,hb14,hb15,hb16,hb17,hb18,hb19,hb24,hb26,hb29,hb32]
 refine SpecS.by (l06_awake_c1_spec hy23) (by simp only [seval,FMB,hb13,hb14,hb15,hb16,hb17,hb18,hb19,hb24,hb26,hb29,hb32]) ?_
 simp only [seval,EMB,hb13,hb14,hb15,hb16,hb17,hb18,hb19,hb24,hb26,hb29,hb32]
 refine SpecS.by (dc_Millimetres_spec hy25) (by simp only [seval,FMB,hb13,hb14,hb15,hb16,hb17,hb18,hb19,hb24,hb26,hb29,hb32]) ?_
 simp only [seval,EMB,ag_33,sz_33,hb13,hb14,hb15,hb16,hb17,hb18,hb19,hb24,hb26,hb29,hb32]
 refine SpecS.by (dc_Nearest_spec hy27) (by simp only [seval,FMB,hb13,hb14,hb15,hb16,hb17,hb18,hb19,hb24,hb26,hb29,hb32]) ?_
 simp only [seval,EMB,hb13,hb14,hb15,hb16,hb17,hb18,hb19,hb24,hb26,hb29,hb32]
 refine SpecS.by (l06_awake_c1_spec hy28) (by simp only [seval,FMB,hb13,hb14,hb15,hb16,hb17,hb18,hb19,hb24,hb26,hb29,hb32]) ?_
 simp only [seval,EMB,ag_33,sz_33,hb13,hb14,hb15,hb16,hb17,hb18,hb19,hb24,hb26,hb29,hb32]
 refine SpecS.by (dc_Down_spec hy30) (by simp only [seval,FMB,hb13,hb14,hb15,hb16,hb17,hb18,hb19,hb24,hb26,hb29,hb32]) ?_
 simp only [seval,EMB,hb13,hb14,hb15,hb16,hb17,hb18,hb19,hb24,hb26,hb29,hb32]
 refine SpecS.by (l06_awake_c1_spec hy31) (by simp only [seval,FMB,hb13,hb14,hb15,hb16,hb17,hb18,hb19,hb24,hb26,hb29,hb32]) ?_
 simp only [seval,EMB,hb13,hb14,hb15,hb16,hb17,hb18,hb19,hb24,hb26,hb29,hb32]
 cases h
 simp only [seval,FMB,hb13,hb14,hb15,hb16,hb17,hb18,hb19,hb24,hb26,hb29,hb32]
 refine .region fun e h=>?_
 simp only [seval,EMB,hb13,hb14,hb15,hb16,hb17,hb18,hb19,hb24,hb26,hb29]
 refine SpecS.by (r02_Frac_spec hy20) (by simp only [seval,FMB,hb13,hb14,hb15,hb16,hb17,hb18,hb19,hb24,hb26,hb29]) ?_
 simp only [seval,EMB,hb13,hb14,hb15,hb16,hb17,hb18,hb19,hb24,hb26,hb29]
 refine SpecS.by (r03_FromRat_spec hy21) (by simp only [seval,FMB,hb13,hb14,hb15,hb16,hb17,hb18,hb19,hb24,hb26,hb29]) ?_
 simp only [seval,EMB,hb13,hb14,hb15,hb16,hb17,hb18,hb19,hb24,hb26,hb29]
 refine SpecS.by (dc_Nearest_spec hy22) (by simp only [seval,FMB,hb13,hb14,hb15,hb16,hb17,hb18,hb19,hb24,hb26,hb29]) ?_
 simp only [seval,EMB,hb13,hb14,hb15,hb16,hb17,hb18,hb19,hb24,hb26,hb29]
 refine SpecS.by (l06_awake_c1_spec hy23) (by simp only [seval,FMB,hb13,hb14,hb15,hb16,hb17,hb18,hb19,hb24,hb26,hb29]) ?_
 simp only [seval,EMB,hb13,hb14,hb15,hb16,hb17,hb18,hb19,hb24,hb26,hb29]
 refine SpecS.by (dc_Millimetres_spec hy25) (by simp only [seval,FMB,hb13,hb14,hb15,hb16,hb17,hb18,hb19,hb24,hb26,hb29]) ?_
 simp only [seval,EMB,ag_33,sz_33,hb13,hb14,hb15,hb16,hb17,hb18,hb19,hb24,hb26,hb29]
 refine SpecS.by (dc_Nearest_spec hy27) (by simp only [seval,FMB,hb13,hb14,hb15,hb16,hb17,hb18,hb19,hb24,hb26,hb29]) ?_
 simp only [seval,EMB,hb13,hb14,hb15,hb16,hb17,hb18,hb19,hb24,hb26,hb29]
 refine SpecS.by (l06_awake_c1_spec hy28) (by simp only [seval,FMB,hb13,hb14,hb15,hb16,hb17,hb18,hb19,hb24,hb26,hb29]) ?_
 simp only [seval,EMB,hb13,hb14,hb15,hb16,hb17,hb18,hb19,hb24,hb26,hb29]
 cases h
 simp only [seval,FMB,hb13,hb14,hb15,hb16,hb17,hb18,hb19,hb24,hb26,hb29]
 refine .region fun e h=>?_
 simp only [seval,EMB,hb13,hb14,hb15,hb16,hb17,hb18,hb19,hb24,hb26]
 refine SpecS.by (r02_Frac_spec hy20) (by simp only [seval,FMB,hb13,hb14,hb15,hb16,hb17,hb18,hb19,hb24,hb26]) ?_
 simp only [seval,EMB,hb13,hb14,hb15,hb16,hb17,hb18,hb19,hb24,hb26]
 refine SpecS.by (r03_FromRat_spec hy21) (by simp only [seval,FMB,hb13,hb14,hb15,hb16,hb17,hb18,hb19,hb24,hb26]) ?_
 simp only [seval,EMB,hb13,hb14,hb15,hb16,hb17,hb18,hb19,hb24,hb26]
 refine SpecS.by (dc_Nearest_spec hy22) (by simp only [seval,FMB,hb13,hb14,hb15,hb16,hb17,hb18,hb19,hb24,hb26]) ?_
 simp only [seval,EMB,hb13,hb14,hb15,hb16,hb17,hb18,hb19,hb24,hb26]
 refine SpecS.by (l06_awake_c1_spec hy23) (by simp only [seval,FMB,hb13,hb14,hb15,hb16,hb17,hb18,hb19,hb24,hb26]) ?_
 simp only [seval,EMB,hb13,hb14,hb15,hb16,hb17,hb18,hb19,hb24,hb26]
 refine SpecS.by (dc_Millimetres_spec hy25) (by simp only [seval,FMB,hb13,hb14,hb15,hb16,hb17,hb18,hb19,hb24,hb26]) ?_
 simp only [seval,EMB,hb13,hb14,hb15,hb16,hb17,hb18,hb19,hb24,hb26]
 cases h
 simp only [seval,FMB,hb13,hb14,hb15,hb16,hb17,hb18,hb19,hb24,hb26]
 refine .region fun e h=>?_
 simp only [seval,EMB,hb13,hb14,hb15,hb16,hb17,hb18,hb19,hb24]
 refine SpecS.by (r02_Frac_spec hy20) (by simp only [seval,FMB,hb13,hb14,hb15,hb16,hb17,hb18,hb19,hb24]) ?_
 simp only [seval,EMB,hb13,hb14,hb15,hb16,hb17,hb18,hb19,hb24]
 refine SpecS.by (r03_FromRat_spec hy21) (by simp only [seval,FMB,hb13,hb14,hb15,hb16,hb17,hb18,hb19,hb24]) ?_
 simp only [seval,EMB,hb13,hb14,hb15,hb16,hb17,hb18,hb19,hb24]
 refine SpecS.by (dc_Nearest_spec hy22) (by simp only [seval,FMB,hb13,hb14,hb15,hb16,hb17,hb18,hb19,hb24]) ?_
 simp only [seval,EMB,hb13,hb14,hb15,hb16,hb17,hb18,hb19,hb24]
 refine SpecS.by (l06_awake_c1_spec hy23) (by simp only [seval,FMB,hb13,hb14,hb15,hb16,hb17,hb18,hb19,hb24]) ?_
 simp only [seval,EMB,hb13,hb14,hb15,hb16,hb17,hb18,hb19,hb24]
 cases h
 simp only [seval,FMB,hb13,hb14,hb15,hb16,hb17,hb18,hb19,hb24]
 refine .region fun e h=>?_
 simp only [seval,EMB,hb13,hb14,hb15,hb16,hb17,hb18]
 cases h
 simp only [seval,FMB,hb13,hb14,hb15,hb16,hb17,hb18]
 refine .region fun e h=>?_
 simp only [seval,EMB,hb13,hb14,hb15,hb16,hb17]
 cases h
 simp only [seval,FMB,hb13,hb14,hb15,hb16,hb17]
 refine .region fun e h=>?_
 simp only [seval,EMB,hb13,hb14,hb15,hb16]
 cases h
 simp only [seval,FMB,hb13,hb14,hb15,hb16]
 refine .region fun e h=>?_
 simp only [seval,EMB,hb13,hb14,hb15]
 cases h
 simp only [seval,FMB,hb13,hb14,hb15]
 refine .region fun e h=>?_
 simp only [seval,EMB,hb13,hb14]
 cases h
 simp only [seval,FMB,hb13,hb14]
 refine .region fun e h=>?_
 simp only [seval,EMB,hb13]
 cases h
 simp only [seval,FMB,hb13]
 intro v1
 refine Mir.toK (.ret fun e h=>?_)
 cases h
 simp only [seval,FMB,Tryz.results10]
end Go.Proofs.YtipefnighcdgnaaGreatDoor
