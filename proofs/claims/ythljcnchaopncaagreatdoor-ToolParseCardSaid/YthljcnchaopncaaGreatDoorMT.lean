import Derived.Test.YthljcnchaopncaaGreatDoorGx
import Derived.Test.YthljcnchaopncaaGreatDoorTy
import Derived.Test.YthljcnchaopncaaGreatDoorLbe
import Derived.Test.YthljcnchaopncaaGreatDoorSzz
import Derived.Test.YthljcnchaopncaaGreatDoorMI
import Derived.Test.YthljcnchaopncaaGreatDoorMQ
import Derived.Test.YthljcnchaopncaaGreatDoorMB
namespace Go.Proofs.YthljcnchaopncaaGreatDoor
open Go.RowKit
open Nat renaming reduceAdd → nA,reduceSub → nS,reduceMul → nM,reduceEqDiff → nE,reduceLeDiff → nL,reduceLT → nT,reduceBEq → nB
open Int renaming reduceLT → iT,reduceToNat → iN,reduceEq → iE
set_option linter.unusedVariables false
set_option linter.unusedSimpArgs false
set_option maxRecDepth 100000
set_option maxHeartbeats 8000000
theorem EMT : type_of% (@SE) := @SE
theorem FMT : type_of% (@SF) := @SF
def r06_Places (a0 : (List UInt8)) : Option Int := if (decide ((a0.length : Int) > 65536)) = true then some (-1) else bindO (if (decide ((a0.length : Int) > 0)) = true then bindO (gt a0 0) fun (c1 : UInt8)=>some ((c1.toNat : Int) == 45) else some false) fun (v1 : Bool)=>bindO (if v1 = true then bindO (cutF a0 1) fun (s1 : (List UInt8))=>some s1 else some a0) fun (v2 : (List UInt8))=>bindX (guardO (okIdx v2) ( rangeX (fun (i1 : Nat) (c2 : UInt8) (v3 : Int × Bool)=>bindX (if (((c2.toNat : Int) == 46) && (v3.1 == (v2.length : Int))) = true then some (.go ((i1 : Int),v3.2)) else if ((decide ((c2.toNat : Int) < 48)) || (decide ((c2.toNat : Int) > 57))) = true then some (.ret (.ret (.ret (-1)))) else some (.go (v3.1,v3.2 || ((c2.toNat : Int) != 48)))) fun (v4 : Int × Bool)=>some (.go (v4.1,v4.2))) (fun (v3 : Int × Bool)=>some (.go (v3.1,v3.2))) v2 0 ((v2.length : Int),false))) fun (v5 : Int × Bool)=>bindO (if (v5.1 == 0) = true then some true else if (decide (v5.1 > 1)) = true then bindO (gt v2 0) fun (c3 : UInt8)=>if ((c3.toNat : Int) == 48) = true then some true else if (decide ((a0.length : Int) > (v2.length : Int))) = true then some (!v5.2) else some false else if (decide ((a0.length : Int) > (v2.length : Int))) = true then some (!v5.2) else some false) fun (v6 : Bool)=>if v6 = true then some (-1) else if (v5.1 == (v2.length : Int)) = true then some 0 else if ((decide ((IntKind.i64.wrap ((IntKind.i64.wrap ((v2.length : Int) - v5.1)) - 1)) < 1)) || (decide ((IntKind.i64.wrap ((IntKind.i64.wrap ((v2.length : Int) - v5.1)) - 1)) > 30))) = true then some (-1) else some (IntKind.i64.wrap ((IntKind.i64.wrap ((v2.length : Int) - v5.1)) - 1))
theorem r06_Places_spec {a0 : (List UInt8)} {y : Int} (h : r06_Places a0 = some y) : Spec gP 73 [.d (.str a0)] (.d (.int .i64 y)) := by
 refine spec_mir Tryz.func73 rfl (by kernel_rfl) (by kernel_rfl) (fun y : Int=>.d (.int .i64 y)) ?_ h
 unfold r06_Places
 simp only [List.replicate,List.length,nS,nA,Tryz.ntmps73,SV]
 refine .sR fun e h=>?_
 simp only [seval,EMT]
 refine mU e (.seqK (.sR fun e h=>?_)) h
 simp only [seval,EMT,und_9]
 refine mU e (.cond rfl (fun hb2=>?_) (fun hb2=>?_)) h
 refine .sR fun e h=>?_
 simp only [seval,EMT]
 refine mU e (.ret fun e h=>?_) h
 cases h
 simp only [seval,FMT,Tryz.results73]
 refine .skip (Mir.toK (.sR fun e h=>?_))
 simp only [seval,EMT]
 refine mU e (.seqK (.seqK (Mir.joinO (fun v1 : Bool=>([.d (.str a0),U,U,.d (.str a0),U,U,U,U,U,U,U,U,U,U,U,U,U,U,U,.d (.bool v1)] ++ us 76)) (fun v1=>⟨[],[]⟩) (fun _=>rfl) ?_ ?_))) h
 refine .ite (fun hb3=>?_) (fun hb3=>?_)
 refine .bind fun c1 q4=>?_
 replace q4 := gt_ok q4
 simp only [Int.reduceToNat,Int.reduceLT,Nat.sub_zero,dp0] at q4
 refine .region fun e h=>?_
 simp only [seval,EMT,und_9,q4,hb3]
 cases h
 simp only [seval,FMT,hb3]
 refine .region fun e h=>?_
 simp only [seval,EMT,und_9,hb3]
 cases h
 simp only [seval,FMT,hb3]
 intro v1
 refine Mir.toK (Mir.joinO (fun v2 : (List UInt8)=>([.d (.str a0),U,U,.d (.str v2)] ++ us 92)) (fun v2=>⟨[],[]⟩) (fun _=>rfl) ?_ ?_)
 refine .cond rfl (fun hb7=>?_) (fun hb7=>?_)
 refine .bind fun s1 q8=>?_
 replace q8 := cutF_ok q8
 simp only [Int.reduceToNat,Int.reduceLT,Nat.sub_zero,dp0] at q8
 refine .region fun e h=>?_
 simp only [seval,EMT,und_9,q8,Nat.le_refl,and_true,true_and,dm,tm]
 cases h
 simp only [seval,FMT,Tryz.results73]
 refine .skip fun e h=>?_
 cases h
 simp only [seval,FMT,Tryz.results73]
 intro v2
 refine Mir.toK (.sR fun e h=>?_)
 simp only [seval,EMT,und_9]
 refine mU e (.sR fun e h=>?_) h
 simp only [seval,EMT]
 refine mU e (.seqK (.sR fun e h=>?_)) h
 simp only [seval,EMT]
 refine mU e (Mir.join (fun v5 : Int × Bool=>([.d (.str a0),U,U,.d (.str v2),.d (.int .i64 v5.1),.d (.bool v5.2)] ++ us 90)) (fun v5=>⟨[],[]⟩) (fun _=>rfl) ?_ ?_) h
 refine .block (.guard fun q1=>Mir.range (fun (i1 : Nat) (v3 : Int × Bool)=>([.d (.str a0),U,U,.d (.str v2),.d (.int .i64 v3.1),.d (.bool v3.2),.d (.int .i64 (i1 : Int))] ++ us 89)) (fun i1 v3=>⟨[],[]⟩) q1 (fun _ _=>rfl) (by simp only [seval,FMT,zNI]) (by simp only [seval,FMT,zNI]) ?_ ?_)
 intro i1 c2 v3 q2
 refine .seqK (.sR fun e h=>?_)
 simp only [seval,EMT,und_9,q2]
 refine mU e (.condT rfl (.skip (Mir.toK (.seqK (Mir.join (fun v4 : Int × Bool=>([.d (.str a0),U,U,.d (.str v2),.d (.int .i64 v4.1),.d (.bool v4.2),.d (.int .i64 (i1 : Int))] ++ us 89)) (fun v4=>⟨[],[]⟩) (fun _=>rfl) ?_ ?_))))) h
 refine .block (.seqK (.seqK (.joinV ([.d (.str a0),U,U,.d (.str v2),.d (.int .i64 v3.1),.d (.bool v3.2),.d (.int .i64 (i1 : Int)),U,U,U,U,U,U,U,U,U,U,U,U,U,U,U,U,U,U,U,U,U,U,U,U,U,U,U,U,U,U,U,U,.d (.bool (((c2.toNat : Int) == 46) && (v3.1 == (v2.length : Int))))] ++ us 56) ⟨[],[]⟩ rfl ?_ ?_)))
 refine SWs.region ?_
 rcases Bool.eq_false_or_eq_true ((c2.toNat : Int) == 46) with h1 | h1
 simp only [seval,EMT,SL,PB,und_9,Int.toNat_natCast,q2,h1]
 simp only [seval,EMT,SL,PB,und_9,Int.toNat_natCast,q2,h1]
 refine Mir.toK (.cond rfl (fun h2=>?_) (fun h2=>?_))
 refine .sR fun e h=>?_
 simp only [seval,EMT]
 refine mU e (.exit fun e h=>?_) h
 cases h
 simp only [seval,FMT,Tryz.results73]
 refine .skip (Mir.toK (.seqK (.seqK (.joinV ([.d (.str a0),U,U,.d (.str v2),.d (.int .i64 v3.1),.d (.bool v3.2),.d (.int .i64 (i1 : Int)),U,U,U,U,U,U,U,U,U,U,U,U,U,U,U,U,U,U,U,U,U,U,U,U,U,U,U,U,U,U,U,U,U,U,U,U,U,U,U,U,U,U,U,.d (.bool ((decide ((c2.toNat : Int) < 48)) || (decide ((c2.toNat : Int) > 57))))] ++ us 45) ⟨[],[]⟩ rfl ?_ ?_))))
 refine SWs.region ?_
 rcases Bool.eq_false_or_eq_true (decide ((c2.toNat : Int) < 48)) with h3 | h3
 simp only [seval,EMT,SL,PB,und_9,Int.toNat_natCast,q2,h3]
 simp only [seval,EMT,SL,PB,und_9,Int.toNat_natCast,q2,h3]
 refine Mir.toK (.cond rfl (fun h4=>?_) (fun h4=>?_))
 refine .sR fun e h=>?_
 simp only [seval,EMT]
 refine mU e (.ret fun e h=>?_) h
 cases h
 simp only [seval,FMT,Tryz.results73]
 refine .skip (Mir.toK (.joinV ([.d (.str a0),U,U,.d (.str v2),.d (.int .i64 v3.1),.d (.bool (v3.2 || ((c2.toNat : Int) != 48))),.d (.int .i64 (i1 : Int))] ++ us 89) ⟨[],[]⟩ rfl ?_ ?_))
 refine SWs.region ?_
 rcases Bool.eq_false_or_eq_true (v3.2) with h5 | h5
 simp only [seval,EMT,SL,PB,h5]
 simp only [seval,EMT,SL,PB,und_9,Int.toNat_natCast,q2,h5]
 intro e h
 cases h
 simp only [seval,FMT,Tryz.results73]
 intro v4
 refine Mir.toK (.region fun e h=>?_)
 simp only [seval,EMT]
 cases h
 simp only [seval,FMT,Tryz.results73,q2]
 intro v3 q3
 refine .seqK (.sR fun e h=>?_)
 simp only [seval,EMT,und_9,q3]
 refine mU e (.condF rfl (.exit fun e h=>?_)) h
 cases h
 simp only [seval,FMT,Tryz.results73]
 intro v5
 refine Mir.toK (.seqK (.seqK (Mir.joinO (fun v6 : Bool=>([U,U,U,.d (.str v2),.d (.int .i64 v5.1),U,U,U,U,U,U,U,U,U,U,U,U,U,U,U,U,U,U,U,U,U,U,U,U,U,U,U,U,U,U,U,U,U,U,U,U,U,U,U,U,U,U,U,U,U,U,U,U,U,U,U,U,U,U,U,U,U,U,U,U,U,U,U,U,U,U,U,U,U,U,U,U,U,U,.d (.bool v6)] ++ us 16)) (fun v6=>⟨[],[]⟩) (fun _=>rfl) ?_ ?_)))
 refine .ite (fun h6=>?_) (fun h6=>?_)
 refine .region fun e h=>?_
 simp only [seval,EMT,h6]
 cases h
 simp only [seval,FMT,h6]
 refine .ite (fun h7=>?_) (fun h7=>?_)
 refine .bind fun c3 q5=>?_
 replace q5 := gt_ok q5
 simp only [Int.reduceToNat,Int.reduceLT,Nat.sub_zero,dp0] at q5
 refine .ite (fun h8=>?_) (fun h8=>?_)
 refine .region fun e h=>?_
 simp only [seval,EMT,und_9,q5,h6,h7,h8]
 cases h
 simp only [seval,FMT,h6,h7,h8]
 refine .ite (fun h9=>?_) (fun h9=>?_)
 refine .region fun e h=>?_
 simp only [seval,EMT,und_9,q5,h6,h7,h8,h9]
 cases h
 simp only [seval,FMT,h6,h7,h8,h9]
 refine .region fun e h=>?_
 simp only [seval,EMT,und_9,q5,h6,h7,h8,h9]
 cases h
 simp only [seval,FMT,h6,h7,h8,h9]
 refine .ite (fun h10=>?_) (fun h10=>?_)
 refine .region fun e h=>?_
 simp only [seval,EMT,und_9,h6,h7,h10]
 cases h
 simp only [seval,FMT,h6,h7,h10]
 refine .region fun e h=>?_
 simp only [seval,EMT,und_9,h6,h7,h10]
 cases h
 simp only [seval,FMT,h6,h7,h10]
 intro v6
 refine Mir.toK (.cond rfl (fun h11=>?_) (fun h11=>?_))
 refine .sR fun e h=>?_
 simp only [seval,EMT]
 refine mU e (.ret fun e h=>?_) h
 cases h
 simp only [seval,FMT,Tryz.results73]
 refine .skip (Mir.toK (.seqK (.sR fun e h=>?_)))
 simp only [seval,EMT,und_9]
 refine mU e (.cond rfl (fun h12=>?_) (fun h12=>?_)) h
 refine .sR fun e h=>?_
 simp only [seval,EMT]
 refine mU e (.ret fun e h=>?_) h
 cases h
 simp only [seval,FMT,Tryz.results73]
 refine .skip (Mir.toK (.sR fun e h=>?_))
 simp only [seval,EMT,und_9]
 refine mU e (.seqK (.seqK (.joinV [U,U,U,U,U,U,U,.d (.int .i64 (IntKind.i64.wrap ((IntKind.i64.wrap ((v2.length : Int) - v5.1)) - 1))),U,U,U,U,U,U,U,U,U,U,U,U,U,U,U,U,U,U,U,U,U,U,U,U,U,U,U,U,U,U,U,U,U,U,U,U,U,U,U,U,U,U,U,U,U,U,U,U,U,U,U,U,U,U,U,U,U,U,U,U,U,U,U,U,U,U,U,U,U,U,U,U,U,U,U,U,U,U,U,U,U,U,U,U,U,U,.d (.bool ((decide ((IntKind.i64.wrap ((IntKind.i64.wrap ((v2.length : Int) - v5.1)) - 1)) < 1)) || (decide ((IntKind.i64.wrap ((IntKind.i64.wrap ((v2.length : Int) - v5.1)) - 1)) > 30)))),U] ⟨[],[]⟩ rfl ?_ ?_))) h
 refine SWs.region ?_
 rcases Bool.eq_false_or_eq_true (decide ((IntKind.i64.wrap ((IntKind.i64.wrap ((v2.length : Int) - v5.1)) - 1)) < 1)) with h13 | h13
 simp only [seval,EMT,SL,PB,h13]
 simp only [seval,EMT,SL,PB,h13]
 refine Mir.toK (.cond rfl (fun h14=>?_) (fun h14=>?_))
 refine .sR fun e h=>?_
 simp only [seval,EMT]
 refine mU e (.ret fun e h=>?_) h
 cases h
 simp only [seval,FMT,Tryz.results73]
 refine .skip (Mir.toK (.sR fun e h=>?_))
 simp only [seval,EMT]
 refine mU e (.ret fun e h=>?_) h
 cases h
 simp only [seval,FMT,Tryz.results73]
def r01_Parse (a0 : (List UInt8)) : Option (ApiInt × Int) := bindO (if (decide ((a0.length : Int) > 0)) = true then bindO (gt a0 0) fun (c1 : UInt8)=>some ((c1.toNat : Int) == 45) else some false) fun (v1 : Bool)=>bindO (if v1 = true then bindO (cutF a0 1) fun (s1 : (List UInt8))=>some s1 else some a0) fun (v2 : (List UInt8))=>bindO (if (v2 == []) = true then some true else if (decide ((a0.length : Int) > 65536)) = true then some true else bindO (gt v2 0) fun (c2 : UInt8)=>if ((c2.toNat : Int) == 48) = true then some (!(a0 == [48])) else some false) fun (v3 : Bool)=>if v3 = true then some (ApiInt.mk false [],2) else guardO (decide ((0 : Int) ≤ (IntKind.i64.wrap ((IntKind.i64.wrap (Int.tdiv (v2.length : Int) 9)) + 1)))) ( guardO (okLen (Int.toNat (IntKind.i64.wrap ((IntKind.i64.wrap (Int.tdiv (v2.length : Int) 9)) + 1)))) ( bindX (guardO (okIdx v2) ( rangeX (fun (i1 : Nat) (c3 : UInt8) (v4 : (List Int))=>bindX (if ((decide ((c3.toNat : Int) < 48)) || (decide ((c3.toNat : Int) > 57))) = true then some (.ret (.ret (.ret (ApiInt.mk false [],2)))) else bindO (loopX (fun (v5 : Int × Int)=>if (decide (v5.2 < (Int.tmod (IntKind.i64.wrap ((IntKind.i64.wrap ((v2.length : Int) - 1)) - (i1 : Int))) 9))) = true then some (.go (IntKind.u32.wrap (v5.1 * 10),IntKind.i64.wrap (v5.2 + 1))) else some (.ret v5.1)) fuel (1,0)) fun (v6 : Int)=>bindO (gt v4 (IntKind.i64.wrap (Int.tdiv (IntKind.i64.wrap ((IntKind.i64.wrap ((v2.length : Int) - 1)) - (i1 : Int))) 9))) fun (e1 : Int)=>bindO (gt v4 (IntKind.i64.wrap (Int.tdiv (IntKind.i64.wrap ((IntKind.i64.wrap ((v2.length : Int) - 1)) - (i1 : Int))) 9))) fun (e2 : Int)=>some (.go (v4.set (Int.toNat (IntKind.i64.wrap (Int.tdiv (IntKind.i64.wrap ((IntKind.i64.wrap ((v2.length : Int) - 1)) - (i1 : Int))) 9))) (IntKind.u32.wrap (e1 + (IntKind.u32.wrap ((IntKind.u32.wrap (IntKind.u8.wrap ((c3.toNat : Int) - 48))) * v6))))))) fun (v7 : (List Int))=>some (.go v7)) (fun (v4 : (List Int))=>some (.go v4)) v2 0 (List.replicate (Int.toNat (IntKind.i64.wrap ((IntKind.i64.wrap (Int.tdiv (v2.length : Int) 9)) + 1))) (0 : Int)))) fun (v8 : (List Int))=>bindO (gt a0 0) fun (c4 : UInt8)=>bindO (r01_signed ((c4.toNat : Int) == 45) v8) fun (y1 : ApiInt)=>some (y1,0)))
theorem r01_Parse_spec {a0 : (List UInt8)} {y : ApiInt × Int} (h : r01_Parse a0 = some y) : Spec gP 102 [.d (.str a0)] (.tuple [.agg [.d (.bool y.1.Neg),.d (.list (List.map (eInt .u32) y.1.Limbs))],.d (.int .i64 y.2)]) := by
 refine spec_mir Tryz.func102 rfl (by kernel_rfl) (by kernel_rfl) (fun y : ApiInt × Int=>.tuple [.agg [.d (.bool y.1.Neg),.d (.list (List.map (eInt .u32) y.1.Limbs))],.d (.int .i64 y.2)]) ?_ h
 unfold r01_Parse
 simp only [List.replicate,List.length,nS,nA,Tryz.ntmps102,SV]
 refine .sR fun e h=>?_
 simp only [seval,EMT,zero_92,eInt,rmap_set,spD]
 refine mU e (.sR fun e h=>?_) h
 simp only [seval,EMT,eInt,rmap_set,spD]
 refine mU e (.seqK (.seqK (Mir.joinO (fun v1 : Bool=>([.d (.str a0),U,.ptr 0 0,U,.d (.str a0),U,U,U,U,U,U,U,U,U,U,U,U,U,.d (.bool v1)] ++ us 76)) (fun v1=>⟨[[.d (.bool false),.nil]],[]⟩) (fun _=>rfl) ?_ ?_))) h
 refine .ite (fun hb1=>?_) (fun hb1=>?_)
 refine .bind fun c1 q2=>?_
 replace q2 := gt_ok q2
 simp only [Int.reduceToNat,Int.reduceLT,Nat.sub_zero,dp0] at q2
 refine .region fun e h=>?_
 simp only [seval,EMT,und_9,q2,hb1]
 cases h
 simp only [seval,FMT,hb1]
 refine .region fun e h=>?_
 simp only [seval,EMT,und_9,hb1]
 cases h
 simp only [seval,FMT,hb1]
 intro v1
 refine Mir.toK (Mir.joinO (fun v2 : (List UInt8)=>([.d (.str a0),U,.ptr 0 0,U,.d (.str v2)] ++ us 90)) (fun v2=>⟨[[.d (.bool false),.nil]],[]⟩) (fun _=>rfl) ?_ ?_)
 refine .cond rfl (fun hb5=>?_) (fun hb5=>?_)
 refine .bind fun s1 q6=>?_
 replace q6 := cutF_ok q6
 simp only [Int.reduceToNat,Int.reduceLT,Nat.sub_zero,dp0] at q6
 refine .region fun e h=>?_
 simp only [seval,EMT,und_9,q6,Nat.le_refl,and_true,true_and,dm,tm]
 cases h
 simp only [seval,FMT,Tryz.results102,ag_92,sz_92]
 refine .skip fun e h=>?_
 cases h
 simp only [seval,FMT,Tryz.results102,ag_92,sz_92]
 intro v2
 refine Mir.toK (.seqK (.seqK (Mir.joinO (fun v3 : Bool=>([.d (.str a0),U,.ptr 0 0,U,.d (.str v2),U,U,U,U,U,U,U,U,U,U,U,U,U,U,U,U,U,U,U,U,U,U,U,U,U,U,U,U,U,U,U,.d (.bool v3)] ++ us 58)) (fun v3=>⟨[[.d (.bool false),.nil]],[]⟩) (fun _=>rfl) ?_ ?_)))
 refine .ite (fun hb7=>?_) (fun hb7=>?_)
 refine .region fun e h=>?_
 simp only [seval,EMT,hb7]
 cases h
 simp only [seval,FMT,hb7]
 refine .ite (fun hb8=>?_) (fun hb8=>?_)
 refine .region fun e h=>?_
 simp only [seval,EMT,und_9,hb7,hb8]
 cases h
 simp only [seval,FMT,hb7,hb8]
 refine .bind fun c2 q9=>?_
 replace q9 := gt_ok q9
 simp only [Int.reduceToNat,Int.reduceLT,Nat.sub_zero,dp0] at q9
 refine .ite (fun hb10=>?_) (fun hb10=>?_)
 refine .region fun e h=>?_
 simp only [seval,EMT,und_9,q9,hb7,hb8,hb10]
 cases h
 simp only [seval,FMT,hb7,hb8,hb10]
 refine .region fun e h=>?_
 simp only [seval,EMT,und_9,q9,hb7,hb8,hb10]
 cases h
 simp only [seval,FMT,hb7,hb8,hb10]
 intro v3
 refine Mir.toK (.cond rfl (fun hb12=>?_) (fun hb12=>?_))
 refine .sR fun e h=>?_
 simp only [seval,EMT,zero_92,pl_92,sz_92]
 refine mU e (.ret fun e h=>?_) h
 cases h
 simp only [seval,FMT,Tryz.results102,ag_92,sz_92]
 refine .skip (Mir.toK (.seqK (.guard fun q13=>.guard fun q14=>.regionW fun e h=>regW.alt 4 rfl ?_)))
 simp only [seval,EMT,w_none,w_eq,und_9,eInt,rmap_set,spD]
 refine alt_makeM (en := (eInt .u32)) (z := 0) rfl rfl app_90 zero_146 rfl rfl (of_decide_eq_true q13) q14 (regW.of ?_)
 simp only [seval,EMT,w_none,w_eq,eInt,rmap_set,spD]
 refine mU e (.seqK (.sR fun e h=>?_)) h
 simp only [seval,EMT,eInt,rmap_set,spD]
 refine mU e (Mir.join (fun v8 : (List Int)=>([.d (.str a0),U,.ptr 0 0,U,U,.gr 1 0] ++ us 89)) (fun v8=>⟨[[.d (.bool false),.nil],[.rowc 146 0 (List.map (eInt .u32) v8)]],[]⟩) (fun _=>rfl) ?_ ?_) h
 refine .block (.guard fun q1=>Mir.range (fun (i1 : Nat) (v4 : (List Int))=>([.d (.str a0),U,.ptr 0 0,U,.d (.str v2),.gr 1 0,.d (.int .i64 (i1 : Int))] ++ us 88)) (fun i1 v4=>⟨[[.d (.bool false),.nil],[.rowc 146 0 (List.map (eInt .u32) v4)]],[]⟩) q1 (fun _ _=>rfl) (by simp only [seval,FMT,eInt,rmap_set,spD,zNI]) (by simp only [seval,FMT,eInt,rmap_set,spD,zNI]) ?_ ?_)
 intro i1 c3 v4 q3
 refine .seqK (.sR fun e h=>?_)
 simp only [seval,EMT,und_9,q3,eInt,rmap_set,spD]
 refine mU e (.condT rfl (.skip (Mir.toK (.seqK (Mir.join (fun v7 : (List Int)=>([.d (.str a0),U,.ptr 0 0,U,.d (.str v2),.gr 1 0,.d (.int .i64 (i1 : Int))] ++ us 88)) (fun v7=>⟨[[.d (.bool false),.nil],[.rowc 146 0 (List.map (eInt .u32) v7)]],[]⟩) (fun _=>rfl) ?_ ?_))))) h
 refine .block (.seqK (.seqK (.joinV ([.d (.str a0),U,.ptr 0 0,U,.d (.str v2),.gr 1 0,.d (.int .i64 (i1 : Int)),U,U,U,U,U,U,U,U,U,U,U,U,U,U,U,U,U,U,U,U,U,U,U,U,U,U,U,U,U,U,U,U,U,U,U,U,U,U,U,U,U,U,U,U,U,U,U,U,U,U,U,.d (.bool ((decide ((c3.toNat : Int) < 48)) || (decide ((c3.toNat : Int) > 57))))] ++ us 36) ⟨[[.d (.bool false),.nil],[.rowc 146 0 (List.map (eInt .u32) v4)]],[]⟩ rfl ?_ ?_)))
 refine SWs.region ?_
 rcases Bool.eq_false_or_eq_true (decide ((c3.toNat : Int) < 48)) with h1 | h1
 simp only [seval,EMT,SL,PB,und_9,Int.toNat_natCast,q3,h1,eInt,rmap_set,spD]
 simp only [seval,EMT,SL,PB,und_9,Int.toNat_natCast,q3,h1,eInt,rmap_set,spD]
 refine Mir.toK (.cond rfl (fun h2=>?_) (fun h2=>?_))
 refine .sR fun e h=>?_
 simp only [seval,EMT,zero_92,pl_92,sz_92,eInt,rmap_set,spD]
 refine mU e (.ret fun e h=>?_) h
 cases h
 simp only [seval,FMT,eInt,rmap_set,spD,Tryz.results102,ag_92,sz_92]
 refine .skip (Mir.toK (.sR fun e h=>?_))
 simp only [seval,EMT,und_9,eInt,rmap_set,spD]
 refine mU e (.sR fun e h=>?_) h
 simp only [seval,EMT,eInt,rmap_set,spD]
 refine mU e (.seqK (.sR fun e h=>?_)) h
 simp only [seval,EMT,eInt,rmap_set,spD]
 refine mU e (Mir.joinO (fun v6 : Int=>([.d (.str a0),U,.ptr 0 0,U,.d (.str v2),.gr 1 0,.d (.int .i64 (i1 : Int)),.d (.int .i64 (IntKind.i64.wrap ((IntKind.i64.wrap ((v2.length : Int) - 1)) - (i1 : Int)))),.d (.int .u32 v6)] ++ us 86)) (fun v6=>⟨[[.d (.bool false),.nil],[.rowc 146 0 (List.map (eInt .u32) v4)]],[]⟩) (fun _=>rfl) ?_ ?_) h
 refine .block (Mir.loop (fun v5 : Int × Int=>([.d (.str a0),U,.ptr 0 0,U,.d (.str v2),.gr 1 0,.d (.int .i64 (i1 : Int)),.d (.int .i64 (IntKind.i64.wrap ((IntKind.i64.wrap ((v2.length : Int) - 1)) - (i1 : Int)))),.d (.int .u32 v5.1),.d (.int .i64 v5.2)] ++ us 85)) (fun v5=>⟨[[.d (.bool false),.nil],[.rowc 146 0 (List.map (eInt .u32) v4)]],[]⟩) (fun _=>rfl) (by simp only [seval,FMT,eInt,rmap_set,spD]) (by simp only [seval,FMT,eInt,rmap_set,spD]) fun v5=>.seqK (.sR fun e h=>?_))
 simp only [seval,EMT,eInt,rmap_set,spD]
 refine mU e (.cond rfl (fun h3=>?_) (fun h3=>?_)) h
 refine .skip (Mir.toK (.seqK (.block (.region fun e h=>?_))))
 simp only [seval,EMT,eInt,rmap_set,spD]
 refine mU e (.region fun e h=>?_) h
 simp only [seval,EMT,eInt,rmap_set,spD]
 cases h
 simp only [seval,FMT,eInt,rmap_set,spD,Tryz.results102,ag_92,sz_92]
 refine .exit fun e h=>?_
 cases h
 simp only [seval,FMT,eInt,rmap_set,spD,Tryz.results102,ag_92,sz_92]
 intro v6
 refine Mir.toK (.bind fun e1 q4=>?_)
 replace q4 := gt_ok q4
 refine .bind fun e2 q5=>?_
 replace q5 := gt_ok q5
 refine Mir.regionST 17 (by kernel_rfl) fun e h=>stW.alt 6 rfl (by kernel_rfl) ?_
 simp only [seval,EMT,w_none,w_eq,eInt,rmap_set,spD]
 refine st_indexR rfl rfl rfl und_90 sz_146 (row_lo q4.1) (row_hi q4.2 q4.1) (stW.alt 0 rfl (by kernel_rfl) ?_)
 simp only [seval,EMT,w_none,w_eq,und_90,sz_146,eInt,rmap_set,spD]
 refine st_loadR rfl rfl (row_at q4.2) (by simp only [↓reduceIte,nA,nL,pt_eq,ag_146,sz_146,dc_cons,dc_nil,SV,eInt] <;> rfl) (stW.alt 8 rfl (by kernel_rfl) ?_)
 simp only [seval,EMT,w_none,w_eq,ag_146,sz_146,und_9,Int.toNat_natCast,q3,und_5,und_146,eInt,rmap_set,spD]
 refine st_indexR rfl rfl rfl und_90 sz_146 (row_lo q5.1) (row_hi q5.2 q5.1) (stW.of (by kernel_rfl) ?_)
 simp only [seval,EMT,w_none,w_eq,und_90,sz_146,eInt,rmap_set,spD]
 refine regW.alt 0 rfl ?_
 simp only [seval,EMT,w_none,w_eq,eInt,rmap_set,spD]
 refine alt_storeR rfl rfl (row_at q5.2) rfl rfl sz_146 rfl (Nat.le_of_ble_eq_true rfl) (regW.of ?_)
 simp only [seval,EMT,w_none,w_eq,sz_146,eInt,rmap_set,spD]
 cases h
 simp only [seval,FMT,eInt,rmap_set,spD,Tryz.results102,ag_92,sz_92]
 intro v7
 refine Mir.toK (.region fun e h=>?_)
 simp only [seval,EMT,eInt,rmap_set,spD]
 cases h
 simp only [seval,FMT,eInt,rmap_set,spD,Tryz.results102,ag_92,sz_92,q3]
 intro v4 q7
 refine .seqK (.sR fun e h=>?_)
 simp only [seval,EMT,und_9,q7,eInt,rmap_set,spD]
 refine mU e (.condF rfl (.exit fun e h=>?_)) h
 cases h
 simp only [seval,FMT,eInt,rmap_set,spD,Tryz.results102,ag_92,sz_92]
 intro v8
 refine Mir.toK (.seqK (.frz 1 rfl ?_))
 simp only [seval,us_0,us_s,xCA,xNA,and_self,and_true,true_and,and_false,false_and,SZ]
 refine .bind fun c4 q8=>?_
 replace q8 := gt_ok q8
 simp only [Int.reduceToNat,Int.reduceLT,Nat.sub_zero,dp0] at q8
 refine .bind fun y1 h4=>.region fun e h=>?_
 simp only [seval,EMT,und_9,q8,eInt,rmap_set,spD]
 refine SpecS.by (r01_signed_spec h4) (by simp only [seval,FMT,eInt,rmap_set,spD]) ?_
 simp only [seval,EMT,sz_92,eInt,rmap_set,spD]
 refine mU e (.ret fun e h=>?_) h
 cases h
 simp only [seval,FMT,eInt,rmap_set,spD,Tryz.results102,ag_92,sz_92]
def r06_Parse (a0 : (List UInt8)) : Option (ApiRat × Int) := bindO (r06_Places a0) fun (y1 : Int)=>if (decide (y1 < 0)) = true then some (ApiRat.mk (ApiInt.mk false []) (ApiInt.mk false []),2) else bindO (guardO (okIdx a0) ( rangeX (fun (i1 : Nat) (c1 : UInt8) (v1 : (List UInt8))=>bindO (if ((decide ((c1.toNat : Int) ≥ 48)) && ((decide ((c1.toNat : Int) ≤ 57)) && (!(v1 == []) || ((c1.toNat : Int) != 48)))) = true then bindO (cutL a0 (i1 : Int) (IntKind.i64.wrap ((i1 : Int) + 1))) fun (s1 : (List UInt8))=>guardO (okStr v1 s1) ( some (v1 ++ s1)) else some v1) fun (v2 : (List UInt8))=>some (.go v2)) (fun (v1 : (List UInt8))=>some v1) a0 0 [])) fun (v3 : (List UInt8))=>bindO (if (v3 == []) = true then some [48] else some v3) fun (v4 : (List UInt8))=>bindO (gt a0 0) fun (c2 : UInt8)=>bindO (if ((c2.toNat : Int) == 45) = true then guardO (okStr [45] v4) ( some ([45] ++ v4)) else some v4) fun (v5 : (List UInt8))=>bindO (r01_Parse v5) fun (y2 : ApiInt × Int)=>bindO (r02_FromInt y2.1) fun (y3 : ApiRat)=>bindO (r06_Power y1) fun (y4 : ApiRat)=>bindO (r02_Over y3 y4) fun (y5 : ApiRat)=>some (y5,0)
theorem r06_Parse_spec {a0 : (List UInt8)} {y : ApiRat × Int} (h : r06_Parse a0 = some y) : Spec gP 74 [.d (.str a0)] (.tuple [.agg [.d (.bool y.1.Num.Neg),.d (.list (List.map (eInt .u32) y.1.Num.Limbs)),.d (.bool y.1.Den.Neg),.d (.list (List.map (eInt .u32) y.1.Den.Limbs))],.d (.int .i64 y.2)]) := by
 refine spec_mir Tryz.func74 rfl (by kernel_rfl) (by kernel_rfl) (fun y : ApiRat × Int=>.tuple [.agg [.d (.bool y.1.Num.Neg),.d (.list (List.map (eInt .u32) y.1.Num.Limbs)),.d (.bool y.1.Den.Neg),.d (.list (List.map (eInt .u32) y.1.Den.Limbs))],.d (.int .i64 y.2)]) ?_ h
 unfold r06_Parse
 simp only [List.replicate,List.length,nS,nA,Tryz.ntmps74,SV]
 refine .sR fun e h=>?_
 simp only [seval,EMT,zero_94]
 refine mU e (.seqK (.bind fun y1 hy1=>.region fun e h=>?_)) h
 simp only [seval,EMT]
 refine SpecS.by (r06_Places_spec hy1) (by simp only [seval,FMT]) ?_
 simp only [seval,EMT]
 refine mU e (.seqK (.sR fun e h=>?_)) h
 simp only [seval,EMT]
 refine mU e (.cond rfl (fun hb3=>?_) (fun hb3=>?_)) h
 refine .sR fun e h=>?_
 simp only [seval,EMT,zero_94,pl_94,sz_94]
 refine mU e (.ret fun e h=>?_) h
 cases h
 simp only [seval,FMT,Tryz.results74,ag_94,sz_94]
 refine .skip (Mir.toK (.sR fun e h=>?_))
 simp only [seval,EMT]
 refine mU e (.seqK (.sR fun e h=>?_)) h
 simp only [seval,EMT]
 refine mU e (Mir.joinO (fun v3 : (List UInt8)=>([.d (.str a0),U,.ptr 0 0,U,.d (.int .i64 y1),.d (.str v3)] ++ us 58)) (fun v3=>⟨[[.d (.bool false),.nil,.d (.bool false),.nil]],[]⟩) (fun _=>rfl) ?_ ?_) h
 refine .block (.guard fun q1=>Mir.range (fun (i1 : Nat) (v1 : (List UInt8))=>([.d (.str a0),U,.ptr 0 0,U,.d (.int .i64 y1),.d (.str v1),.d (.int .i64 (i1 : Int))] ++ us 57)) (fun i1 v1=>⟨[[.d (.bool false),.nil,.d (.bool false),.nil]],[]⟩) q1 (fun _ _=>rfl) (by simp only [seval,FMT,zNI]) (by simp only [seval,FMT,zNI]) ?_ ?_)
 intro i1 c1 v1 q2
 refine .seqK (.sR fun e h=>?_)
 simp only [seval,EMT,und_9,q2]
 refine mU e (.condT rfl (.skip (Mir.toK (.seqK (Mir.joinO (fun v2 : (List UInt8)=>([.d (.str a0),U,.ptr 0 0,U,.d (.int .i64 y1),.d (.str v2),.d (.int .i64 (i1 : Int))] ++ us 57)) (fun v2=>⟨[[.d (.bool false),.nil,.d (.bool false),.nil]],[]⟩) (fun _=>rfl) ?_ ?_))))) h
 refine .block (.seqK (.joinV ([.d (.str a0),U,.ptr 0 0,U,.d (.int .i64 y1),.d (.str v1),.d (.int .i64 (i1 : Int)),U,U,U,U,U,U,U,U,U,U,U,U,U,U,U,U,U,U,U,U,U,U,U,U,U,U,U,U,U,U,U,U,.d (.bool ((decide ((c1.toNat : Int) ≥ 48)) && ((decide ((c1.toNat : Int) ≤ 57)) && (!(v1 == []) || ((c1.toNat : Int) != 48)))))] ++ us 24) ⟨[[.d (.bool false),.nil,.d (.bool false),.nil]],[]⟩ rfl ?_ ?_))
 refine SWs.region ?_
 rcases Bool.eq_false_or_eq_true (decide ((c1.toNat : Int) ≥ 48)) with h1 | h1
 rcases Bool.eq_false_or_eq_true (decide ((c1.toNat : Int) ≤ 57)) with h2 | h2
 rcases Bool.eq_false_or_eq_true (v1 == []) with h3 | h3
 simp only [seval,EMT,SL,PB,und_9,Int.toNat_natCast,q2,h1,h2,h3]
 simp only [seval,EMT,SL,PB,und_9,Int.toNat_natCast,q2,h1,h2,h3]
 simp only [seval,EMT,SL,PB,und_9,Int.toNat_natCast,q2,h1,h2]
 simp only [seval,EMT,SL,PB,und_9,Int.toNat_natCast,q2,h1]
 refine Mir.toK (.cond rfl (fun h4=>?_) (fun h4=>?_))
 refine .bind fun s1 q3=>?_
 replace q3 := cutL_ok q3
 simp only [Int.toNat_natCast] at q3
 refine .guard fun q4=>?_
 replace q4 := okStr_ok q4
 refine .region fun e h=>?_
 simp only [seval,EMT,und_9,q3,Nat.le_refl,and_true,true_and,dm,tm,Int.toNat_natCast,q4]
 cases h
 simp only [seval,FMT,Tryz.results74,ag_94,sz_94]
 refine .skip fun e h=>?_
 cases h
 simp only [seval,FMT,Tryz.results74,ag_94,sz_94]
 intro v2
 refine Mir.toK (.region fun e h=>?_)
 simp only [seval,EMT]
 cases h
 simp only [seval,FMT,Tryz.results74,ag_94,sz_94,q2]
 intro v1 q5
 refine .seqK (.sR fun e h=>?_)
 simp only [seval,EMT,und_9,q5]
 refine mU e (.condF rfl (.exit fun e h=>?_)) h
 cases h
 simp only [seval,FMT,Tryz.results74,ag_94,sz_94]
 intro v3
 refine Mir.toK (.seqK (.sR fun e h=>?_))
 simp only [seval,EMT]
 refine mU e (Mir.joinO (fun v4 : (List UInt8)=>([.d (.str a0),U,.ptr 0 0,U,.d (.int .i64 y1),.d (.str v4)] ++ us 58)) (fun v4=>⟨[[.d (.bool false),.nil,.d (.bool false),.nil]],[]⟩) (fun _=>rfl) ?_ ?_) h
 refine .cond rfl (fun h5=>?_) (fun h5=>?_)
 refine .region fun e h=>?_
 simp only [seval,EMT]
 cases h
 simp only [seval,FMT,Tryz.results74,ag_94,sz_94]
 refine .skip fun e h=>?_
 cases h
 simp only [seval,FMT,Tryz.results74,ag_94,sz_94]
 intro v4
 refine Mir.toK (.seqK (.seqK (.bind fun c2 q6=>?_)))
 replace q6 := gt_ok q6
 simp only [Int.reduceToNat,Int.reduceLT,Nat.sub_zero,dp0] at q6
 refine .region fun e h=>?_
 simp only [seval,EMT,und_9,q6]
 refine mU e (Mir.joinO (fun v5 : (List UInt8)=>([U,U,.ptr 0 0,U,.d (.int .i64 y1),.d (.str v5)] ++ us 58)) (fun v5=>⟨[[.d (.bool false),.nil,.d (.bool false),.nil]],[]⟩) (fun _=>rfl) ?_ ?_) h
 refine .cond rfl (fun h6=>?_) (fun h6=>?_)
 refine .guard fun q7=>?_
 replace q7 := okStr_ok q7
 try simp only [lm,xNA,xCA,xAN,xLC,xLN,xAC,xAL,nA,Nat.zero_add] at q7
 refine .region fun e h=>?_
 simp only [seval,EMT,q7]
 cases h
 simp only [seval,FMT,Tryz.results74,ag_94,sz_94]
 refine .skip fun e h=>?_
 cases h
 simp only [seval,FMT,Tryz.results74,ag_94,sz_94]
 intro v5
 refine Mir.toK (.seqK (.bind fun y2 h7=>.region fun e h=>?_))
 simp only [seval,EMT]
 refine SpecS.by (r01_Parse_spec h7) (by simp only [seval,FMT]) ?_
 simp only [seval,EMT,zero_92,sz_92]
 refine mU e (.seqK (.bind fun y3 h8=>.bind fun y4 h9=>.bind fun y5 h10=>.region fun e h=>?_)) h
 simp only [seval,EMT,ag_92,sz_92]
 refine SpecS.by (r02_FromInt_spec h8) (by simp only [seval,FMT]) ?_
 simp only [seval,EMT]
 refine SpecS.by (r06_Power_spec h9) (by simp only [seval,FMT]) ?_
 simp only [seval,EMT]
 refine SpecS.by (r02_Over_spec h10) (by simp only [seval,FMT]) ?_
 simp only [seval,EMT,sz_94]
 refine mU e (.ret fun e h=>?_) h
 cases h
 simp only [seval,FMT,Tryz.results74,ag_94,sz_94]
def r01_Format (a0 : ApiInt) : Option (List UInt8) := if ((a0.Limbs.length : Int) == 0) = true then some [48] else bindO (guardO (okIdx a0.Limbs) ( rangeX (fun (i1 : Nat) (e1 : Int) (v1 : (List UInt8))=>bindO (guardO (okStr (runeS (IntKind.i32.wrap (IntKind.u32.wrap (48 + (Int.tmod e1 10))))) v1) ( guardO (okStr (runeS (IntKind.i32.wrap (IntKind.u32.wrap (48 + (Int.tmod (IntKind.u32.wrap (Int.tdiv e1 10)) 10))))) ((runeS (IntKind.i32.wrap (IntKind.u32.wrap (48 + (Int.tmod e1 10))))) ++ v1)) ( guardO (okStr (runeS (IntKind.i32.wrap (IntKind.u32.wrap (48 + (Int.tmod (IntKind.u32.wrap (Int.tdiv (IntKind.u32.wrap (Int.tdiv e1 10)) 10)) 10))))) ((runeS (IntKind.i32.wrap (IntKind.u32.wrap (48 + (Int.tmod (IntKind.u32.wrap (Int.tdiv e1 10)) 10))))) ++ ((runeS (IntKind.i32.wrap (IntKind.u32.wrap (48 + (Int.tmod e1 10))))) ++ v1))) ( guardO (okStr (runeS (IntKind.i32.wrap (IntKind.u32.wrap (48 + (Int.tmod (IntKind.u32.wrap (Int.tdiv (IntKind.u32.wrap (Int.tdiv (IntKind.u32.wrap (Int.tdiv e1 10)) 10)) 10)) 10))))) ((runeS (IntKind.i32.wrap (IntKind.u32.wrap (48 + (Int.tmod (IntKind.u32.wrap (Int.tdiv (IntKind.u32.wrap (Int.tdiv e1 10)) 10)) 10))))) ++ ((runeS (IntKind.i32.wrap (IntKind.u32.wrap (48 + (Int.tmod (IntKind.u32.wrap (Int.tdiv e1 10)) 10))))) ++ ((runeS (IntKind.i32.wrap (IntKind.u32.wrap (48 + (Int.tmod e1 10))))) ++ v1)))) ( guardO (okStr (runeS (IntKind.i32.wrap (IntKind.u32.wrap (48 + (Int.tmod (IntKind.u32.wrap (Int.tdiv (IntKind.u32.wrap (Int.tdiv (IntKind.u32.wrap (Int.tdiv (IntKind.u32.wrap (Int.tdiv e1 10)) 10)) 10)) 10)) 10))))) ((runeS (IntKind.i32.wrap (IntKind.u32.wrap (48 + (Int.tmod (IntKind.u32.wrap (Int.tdiv (IntKind.u32.wrap (Int.tdiv (IntKind.u32.wrap (Int.tdiv e1 10)) 10)) 10)) 10))))) ++ ((runeS (IntKind.i32.wrap (IntKind.u32.wrap (48 + (Int.tmod (IntKind.u32.wrap (Int.tdiv (IntKind.u32.wrap (Int.tdiv e1 10)) 10)) 10))))) ++ ((runeS (IntKind.i32.wrap (IntKind.u32.wrap (48 + (Int.tmod (IntKind.u32.wrap (Int.tdiv e1 10)) 10))))) ++ ((runeS (IntKind.i32.wrap (IntKind.u32.wrap (48 + (Int.tmod e1 10))))) ++ v1))))) ( guardO (okStr (runeS (IntKind.i32.wrap (IntKind.u32.wrap (48 + (Int.tmod (IntKind.u32.wrap (Int.tdiv (IntKind.u32.wrap (Int.tdiv (IntKind.u32.wrap (Int.tdiv (IntKind.u32.wrap (Int.tdiv (IntKind.u32.wrap (Int.tdiv e1 10)) 10)) 10)) 10)) 10)) 10))))) ((runeS (IntKind.i32.wrap (IntKind.u32.wrap (48 + (Int.tmod (IntKind.u32.wrap (Int.tdiv (IntKind.u32.wrap (Int.tdiv (IntKind.u32.wrap (Int.tdiv (IntKind.u32.wrap (Int.tdiv e1 10)) 10)) 10)) 10)) 10))))) ++ ((runeS (IntKind.i32.wrap (IntKind.u32.wrap (48 + (Int.tmod (IntKind.u32.wrap (Int.tdiv (IntKind.u32.wrap (Int.tdiv (IntKind.u32.wrap (Int.tdiv e1 10)) 10)) 10)) 10))))) ++ ((runeS (IntKind.i32.wrap (IntKind.u32.wrap (48 + (Int.tmod (IntKind.u32.wrap (Int.tdiv (IntKind.u32.wrap (Int.tdiv e1 10)) 10)) 10))))) ++ ((runeS (IntKind.i32.wrap (IntKind.u32.wrap (48 + (Int.tmod (IntKind.u32.wrap (Int.tdiv e1 10)) 10))))) ++ ((runeS (IntKind.i32.wrap (IntKind.u32.wrap (48 + (Int.tmod e1 10))))) ++ v1)))))) ( guardO (okStr (runeS (IntKind.i32.wrap (IntKind.u32.wrap (48 + (Int.tmod (IntKind.u32.wrap (Int.tdiv (IntKind.u32.wrap (Int.tdiv (IntKind.u32.wrap (Int.tdiv (IntKind.u32.wrap (Int.tdiv (IntKind.u32.wrap (Int.tdiv (IntKind.u32.wrap (Int.tdiv e1 10)) 10)) 10)) 10)) 10)) 10)) 10))))) ((runeS (IntKind.i32.wrap (IntKind.u32.wrap (48 + (Int.tmod (IntKind.u32.wrap (Int.tdiv (IntKind.u32.wrap (Int.tdiv (IntKind.u32.wrap (Int.tdiv (IntKind.u32.wrap (Int.tdiv (IntKind.u32.wrap (Int.tdiv e1 10)) 10)) 10)) 10)) 10)) 10))))) ++ ((runeS (IntKind.i32.wrap (IntKind.u32.wrap (48 + (Int.tmod (IntKind.u32.wrap (Int.tdiv (IntKind.u32.wrap (Int.tdiv (IntKind.u32.wrap (Int.tdiv (IntKind.u32.wrap (Int.tdiv e1 10)) 10)) 10)) 10)) 10))))) ++ ((runeS (IntKind.i32.wrap (IntKind.u32.wrap (48 + (Int.tmod (IntKind.u32.wrap (Int.tdiv (IntKind.u32.wrap (Int.tdiv (IntKind.u32.wrap (Int.tdiv e1 10)) 10)) 10)) 10))))) ++ ((runeS (IntKind.i32.wrap (IntKind.u32.wrap (48 + (Int.tmod (IntKind.u32.wrap (Int.tdiv (IntKind.u32.wrap (Int.tdiv e1 10)) 10)) 10))))) ++ ((runeS (IntKind.i32.wrap (IntKind.u32.wrap (48 + (Int.tmod (IntKind.u32.wrap (Int.tdiv e1 10)) 10))))) ++ ((runeS (IntKind.i32.wrap (IntKind.u32.wrap (48 + (Int.tmod e1 10))))) ++ v1))))))) ( guardO (okStr (runeS (IntKind.i32.wrap (IntKind.u32.wrap (48 + (Int.tmod (IntKind.u32.wrap (Int.tdiv (IntKind.u32.wrap (Int.tdiv (IntKind.u32.wrap (Int.tdiv (IntKind.u32.wrap (Int.tdiv (IntKind.u32.wrap (Int.tdiv (IntKind.u32.wrap (Int.tdiv (IntKind.u32.wrap (Int.tdiv e1 10)) 10)) 10)) 10)) 10)) 10)) 10)) 10))))) ((runeS (IntKind.i32.wrap (IntKind.u32.wrap (48 + (Int.tmod (IntKind.u32.wrap (Int.tdiv (IntKind.u32.wrap (Int.tdiv (IntKind.u32.wrap (Int.tdiv (IntKind.u32.wrap (Int.tdiv (IntKind.u32.wrap (Int.tdiv (IntKind.u32.wrap (Int.tdiv e1 10)) 10)) 10)) 10)) 10)) 10)) 10))))) ++ ((runeS (IntKind.i32.wrap (IntKind.u32.wrap (48 + (Int.tmod (IntKind.u32.wrap (Int.tdiv (IntKind.u32.wrap (Int.tdiv (IntKind.u32.wrap (Int.tdiv (IntKind.u32.wrap (Int.tdiv (IntKind.u32.wrap (Int.tdiv e1 10)) 10)) 10)) 10)) 10)) 10))))) ++ ((runeS (IntKind.i32.wrap (IntKind.u32.wrap (48 + (Int.tmod (IntKind.u32.wrap (Int.tdiv (IntKind.u32.wrap (Int.tdiv (IntKind.u32.wrap (Int.tdiv (IntKind.u32.wrap (Int.tdiv e1 10)) 10)) 10)) 10)) 10))))) ++ ((runeS (IntKind.i32.wrap (IntKind.u32.wrap (48 + (Int.tmod (IntKind.u32.wrap (Int.tdiv (IntKind.u32.wrap (Int.tdiv (IntKind.u32.wrap (Int.tdiv e1 10)) 10)) 10)) 10))))) ++ ((runeS (IntKind.i32.wrap (IntKind.u32.wrap (48 + (Int.tmod (IntKind.u32.wrap (Int.tdiv (IntKind.u32.wrap (Int.tdiv e1 10)) 10)) 10))))) ++ ((runeS (IntKind.i32.wrap (IntKind.u32.wrap (48 + (Int.tmod (IntKind.u32.wrap (Int.tdiv e1 10)) 10))))) ++ ((runeS (IntKind.i32.wrap (IntKind.u32.wrap (48 + (Int.tmod e1 10))))) ++ v1)))))))) ( guardO (okStr (runeS (IntKind.i32.wrap (IntKind.u32.wrap (48 + (Int.tmod (IntKind.u32.wrap (Int.tdiv (IntKind.u32.wrap (Int.tdiv (IntKind.u32.wrap (Int.tdiv (IntKind.u32.wrap (Int.tdiv (IntKind.u32.wrap (Int.tdiv (IntKind.u32.wrap (Int.tdiv (IntKind.u32.wrap (Int.tdiv (IntKind.u32.wrap (Int.tdiv e1 10)) 10)) 10)) 10)) 10)) 10)) 10)) 10)) 10))))) ((runeS (IntKind.i32.wrap (IntKind.u32.wrap (48 + (Int.tmod (IntKind.u32.wrap (Int.tdiv (IntKind.u32.wrap (Int.tdiv (IntKind.u32.wrap (Int.tdiv (IntKind.u32.wrap (Int.tdiv (IntKind.u32.wrap (Int.tdiv (IntKind.u32.wrap (Int.tdiv (IntKind.u32.wrap (Int.tdiv e1 10)) 10)) 10)) 10)) 10)) 10)) 10)) 10))))) ++ ((runeS (IntKind.i32.wrap (IntKind.u32.wrap (48 + (Int.tmod (IntKind.u32.wrap (Int.tdiv (IntKind.u32.wrap (Int.tdiv (IntKind.u32.wrap (Int.tdiv (IntKind.u32.wrap (Int.tdiv (IntKind.u32.wrap (Int.tdiv (IntKind.u32.wrap (Int.tdiv e1 10)) 10)) 10)) 10)) 10)) 10)) 10))))) ++ ((runeS (IntKind.i32.wrap (IntKind.u32.wrap (48 + (Int.tmod (IntKind.u32.wrap (Int.tdiv (IntKind.u32.wrap (Int.tdiv (IntKind.u32.wrap (Int.tdiv (IntKind.u32.wrap (Int.tdiv (IntKind.u32.wrap (Int.tdiv e1 10)) 10)) 10)) 10)) 10)) 10))))) ++ ((runeS (IntKind.i32.wrap (IntKind.u32.wrap (48 + (Int.tmod (IntKind.u32.wrap (Int.tdiv (IntKind.u32.wrap (Int.tdiv (IntKind.u32.wrap (Int.tdiv (IntKind.u32.wrap (Int.tdiv e1 10)) 10)) 10)) 10)) 10))))) ++ ((runeS (IntKind.i32.wrap (IntKind.u32.wrap (48 + (Int.tmod (IntKind.u32.wrap (Int.tdiv (IntKind.u32.wrap (Int.tdiv (IntKind.u32.wrap (Int.tdiv e1 10)) 10)) 10)) 10))))) ++ ((runeS (IntKind.i32.wrap (IntKind.u32.wrap (48 + (Int.tmod (IntKind.u32.wrap (Int.tdiv (IntKind.u32.wrap (Int.tdiv e1 10)) 10)) 10))))) ++ ((runeS (IntKind.i32.wrap (IntKind.u32.wrap (48 + (Int.tmod (IntKind.u32.wrap (Int.tdiv e1 10)) 10))))) ++ ((runeS (IntKind.i32.wrap (IntKind.u32.wrap (48 + (Int.tmod e1 10))))) ++ v1))))))))) ( some ())))))))))) fun (v2 : Unit)=>some (.go ((runeS (IntKind.i32.wrap (IntKind.u32.wrap (48 + (Int.tmod (IntKind.u32.wrap (Int.tdiv (IntKind.u32.wrap (Int.tdiv (IntKind.u32.wrap (Int.tdiv (IntKind.u32.wrap (Int.tdiv (IntKind.u32.wrap (Int.tdiv (IntKind.u32.wrap (Int.tdiv (IntKind.u32.wrap (Int.tdiv (IntKind.u32.wrap (Int.tdiv e1 10)) 10)) 10)) 10)) 10)) 10)) 10)) 10)) 10))))) ++ ((runeS (IntKind.i32.wrap (IntKind.u32.wrap (48 + (Int.tmod (IntKind.u32.wrap (Int.tdiv (IntKind.u32.wrap (Int.tdiv (IntKind.u32.wrap (Int.tdiv (IntKind.u32.wrap (Int.tdiv (IntKind.u32.wrap (Int.tdiv (IntKind.u32.wrap (Int.tdiv (IntKind.u32.wrap (Int.tdiv e1 10)) 10)) 10)) 10)) 10)) 10)) 10)) 10))))) ++ ((runeS (IntKind.i32.wrap (IntKind.u32.wrap (48 + (Int.tmod (IntKind.u32.wrap (Int.tdiv (IntKind.u32.wrap (Int.tdiv (IntKind.u32.wrap (Int.tdiv (IntKind.u32.wrap (Int.tdiv (IntKind.u32.wrap (Int.tdiv (IntKind.u32.wrap (Int.tdiv e1 10)) 10)) 10)) 10)) 10)) 10)) 10))))) ++ ((runeS (IntKind.i32.wrap (IntKind.u32.wrap (48 + (Int.tmod (IntKind.u32.wrap (Int.tdiv (IntKind.u32.wrap (Int.tdiv (IntKind.u32.wrap (Int.tdiv (IntKind.u32.wrap (Int.tdiv (IntKind.u32.wrap (Int.tdiv e1 10)) 10)) 10)) 10)) 10)) 10))))) ++ ((runeS (IntKind.i32.wrap (IntKind.u32.wrap (48 + (Int.tmod (IntKind.u32.wrap (Int.tdiv (IntKind.u32.wrap (Int.tdiv (IntKind.u32.wrap (Int.tdiv (IntKind.u32.wrap (Int.tdiv e1 10)) 10)) 10)) 10)) 10))))) ++ ((runeS (IntKind.i32.wrap (IntKind.u32.wrap (48 + (Int.tmod (IntKind.u32.wrap (Int.tdiv (IntKind.u32.wrap (Int.tdiv (IntKind.u32.wrap (Int.tdiv e1 10)) 10)) 10)) 10))))) ++ ((runeS (IntKind.i32.wrap (IntKind.u32.wrap (48 + (Int.tmod (IntKind.u32.wrap (Int.tdiv (IntKind.u32.wrap (Int.tdiv e1 10)) 10)) 10))))) ++ ((runeS (IntKind.i32.wrap (IntKind.u32.wrap (48 + (Int.tmod (IntKind.u32.wrap (Int.tdiv e1 10)) 10))))) ++ ((runeS (IntKind.i32.wrap (IntKind.u32.wrap (48 + (Int.tmod e1 10))))) ++ v1))))))))))) (fun (v1 : (List UInt8))=>some v1) a0.Limbs 0 [])) fun (v3 : (List UInt8))=>bindO (loopX (fun (v4 : (List UInt8))=>bindO (gt v4 0) fun (c1 : UInt8)=>if ((c1.toNat : Int) == 48) = true then bindO (cutF v4 1) fun (s1 : (List UInt8))=>some (.go s1) else some (.ret v4)) fuel v3) fun (v5 : (List UInt8))=>bindO (if a0.Neg = true then guardO (okStr [45] v5) ( some ([45] ++ v5)) else some v5) fun (v6 : (List UInt8))=>some v6
theorem r01_Format_spec {a0 : ApiInt} {y : (List UInt8)} (h : r01_Format a0 = some y) : Spec gP 153 [.agg [.d (.bool a0.Neg),.d (.list (List.map (eInt .u32) a0.Limbs))]] (.d (.str y)) := by
 refine spec_mir Tryz.func153 rfl (by kernel_rfl) (by kernel_rfl) (fun y : (List UInt8)=>.d (.str y)) ?_ h
 unfold r01_Format
 simp only [List.replicate,List.length,nS,nA,Tryz.ntmps153,SV]
 refine .sR fun e h=>?_
 simp only [seval,EMT,eInt]
 refine mU e (.seqK (.sR fun e h=>?_)) h
 simp only [seval,EMT,fld_92_1,sz_90,ag_90,und_90,eInt]
 refine mU e (.cond rfl (fun hb2=>?_) (fun hb2=>?_)) h
 refine .sR fun e h=>?_
 simp only [seval,EMT,eInt]
 refine mU e (.ret fun e h=>?_) h
 cases h
 simp only [seval,FMT,eInt,Tryz.results153]
 refine .skip (Mir.toK (.sR fun e h=>?_))
 simp only [seval,EMT,eInt]
 refine mU e (.seqK (.sR fun e h=>?_)) h
 simp only [seval,EMT,eInt]
 refine mU e (Mir.joinO (fun v3 : (List UInt8)=>([U,.ptr 0 0,U,.d (.str v3)] ++ us 42)) (fun v3=>⟨[[.d (.bool a0.Neg),.d (.list (List.map (eInt .u32) a0.Limbs))]],[]⟩) (fun _=>rfl) ?_ ?_) h
 refine .block (.guard fun q1=>Mir.range (fun (i1 : Nat) (v1 : (List UInt8))=>([U,.ptr 0 0,U,.d (.str v1),.d (.int .i64 (i1 : Int))] ++ us 41)) (fun i1 v1=>⟨[[.d (.bool a0.Neg),.d (.list (List.map (eInt .u32) a0.Limbs))]],[]⟩) q1 (fun _ _=>rfl) (by simp only [seval,FMT,eInt,zNI]) (by simp only [seval,FMT,eInt,zNI]) ?_ ?_)
 intro i1 e1 v1 q2
 refine .seqK (.sR fun e h=>?_)
 simp only [seval,EMT,fld_92_1,sz_90,ag_90,und_90,q2,eInt]
 refine mU e (.condT rfl (.skip (Mir.toK (.seqK (Mir.joinO (fun v2 : Unit=>([U,.ptr 0 0,U,.d (.str ((runeS (IntKind.i32.wrap (IntKind.u32.wrap (48 + (Int.tmod (IntKind.u32.wrap (Int.tdiv (IntKind.u32.wrap (Int.tdiv (IntKind.u32.wrap (Int.tdiv (IntKind.u32.wrap (Int.tdiv (IntKind.u32.wrap (Int.tdiv (IntKind.u32.wrap (Int.tdiv (IntKind.u32.wrap (Int.tdiv (IntKind.u32.wrap (Int.tdiv e1 10)) 10)) 10)) 10)) 10)) 10)) 10)) 10)) 10))))) ++ ((runeS (IntKind.i32.wrap (IntKind.u32.wrap (48 + (Int.tmod (IntKind.u32.wrap (Int.tdiv (IntKind.u32.wrap (Int.tdiv (IntKind.u32.wrap (Int.tdiv (IntKind.u32.wrap (Int.tdiv (IntKind.u32.wrap (Int.tdiv (IntKind.u32.wrap (Int.tdiv (IntKind.u32.wrap (Int.tdiv e1 10)) 10)) 10)) 10)) 10)) 10)) 10)) 10))))) ++ ((runeS (IntKind.i32.wrap (IntKind.u32.wrap (48 + (Int.tmod (IntKind.u32.wrap (Int.tdiv (IntKind.u32.wrap (Int.tdiv (IntKind.u32.wrap (Int.tdiv (IntKind.u32.wrap (Int.tdiv (IntKind.u32.wrap (Int.tdiv (IntKind.u32.wrap (Int.tdiv e1 10)) 10)) 10)) 10)) 10)) 10)) 10))))) ++ ((runeS (IntKind.i32.wrap (IntKind.u32.wrap (48 + (Int.tmod (IntKind.u32.wrap (Int.tdiv (IntKind.u32.wrap (Int.tdiv (IntKind.u32.wrap (Int.tdiv (IntKind.u32.wrap (Int.tdiv (IntKind.u32.wrap (Int.tdiv e1 10)) 10)) 10)) 10)) 10)) 10))))) ++ ((runeS (IntKind.i32.wrap (IntKind.u32.wrap (48 + (Int.tmod (IntKind.u32.wrap (Int.tdiv (IntKind.u32.wrap (Int.tdiv (IntKind.u32.wrap (Int.tdiv (IntKind.u32.wrap (Int.tdiv e1 10)) 10)) 10)) 10)) 10))))) ++ ((runeS (IntKind.i32.wrap (IntKind.u32.wrap (48 + (Int.tmod (IntKind.u32.wrap (Int.tdiv (IntKind.u32.wrap (Int.tdiv (IntKind.u32.wrap (Int.tdiv e1 10)) 10)) 10)) 10))))) ++ ((runeS (IntKind.i32.wrap (IntKind.u32.wrap (48 + (Int.tmod (IntKind.u32.wrap (Int.tdiv (IntKind.u32.wrap (Int.tdiv e1 10)) 10)) 10))))) ++ ((runeS (IntKind.i32.wrap (IntKind.u32.wrap (48 + (Int.tmod (IntKind.u32.wrap (Int.tdiv e1 10)) 10))))) ++ ((runeS (IntKind.i32.wrap (IntKind.u32.wrap (48 + (Int.tmod e1 10))))) ++ v1)))))))))),.d (.int .i64 (i1 : Int))] ++ us 41)) (fun v2=>⟨[[.d (.bool a0.Neg),.d (.list (List.map (eInt .u32) a0.Limbs))]],[]⟩) (fun _=>rfl) ?_ ?_))))) h
 refine .block (.sR fun e h=>?_)
 simp only [seval,EMT,fld_92_1,sz_90,ag_90,und_90,sz_146,q2,Int.toNat_natCast,ag_146,eInt]
 refine mU e (.sR fun e h=>?_) h
 simp only [seval,EMT,eInt]
 refine mU e (.block (.loopR 15 (.seqK (.sR fun e h=>?_)))) h
 simp only [seval,EMT,eInt]
 refine mU e (.condT rfl (.skip (Mir.toK (.seqK (.block (.seqK (.guard fun q3=>?_))))))) h
 replace q3 := okStr_ok q3
 refine .region fun e h=>?_
 simp only [seval,EMT,und_146,und_21,und_9,rune_enc,q3,eInt]
 refine mU e (.region fun e h=>?_) h
 simp only [seval,EMT,eInt]
 refine mU e (.region fun e h=>?_) h
 simp only [seval,EMT,(nr rfl : IntKind.i64.wrap 1 = 1),eInt]
 refine Mir.useN (e := e) ?_ h
 refine .seqK (.sR fun e h=>?_)
 simp only [seval,EMT,eInt]
 refine mU e (.condT rfl (.skip (Mir.toK (.seqK (.block (.seqK (.guard fun q4=>?_))))))) h
 replace q4 := okStr_ok q4
 refine .region fun e h=>?_
 simp only [seval,EMT,und_146,und_21,und_9,rune_enc,q4,eInt]
 refine mU e (.region fun e h=>?_) h
 simp only [seval,EMT,eInt]
 refine mU e (.region fun e h=>?_) h
 simp only [seval,EMT,(nr rfl : IntKind.i64.wrap 2 = 2),eInt]
 refine Mir.useN (e := e) ?_ h
 refine .seqK (.sR fun e h=>?_)
 simp only [seval,EMT,eInt]
 refine mU e (.condT rfl (.skip (Mir.toK (.seqK (.block (.seqK (.guard fun q5=>?_))))))) h
 replace q5 := okStr_ok q5
 refine .region fun e h=>?_
 simp only [seval,EMT,und_146,und_21,und_9,rune_enc,q5,eInt]
 refine mU e (.region fun e h=>?_) h
 simp only [seval,EMT,eInt]
 refine mU e (.region fun e h=>?_) h
 simp only [seval,EMT,(nr rfl : IntKind.i64.wrap 3 = 3),eInt]
 refine Mir.useN (e := e) ?_ h
 refine .seqK (.sR fun e h=>?_)
 simp only [seval,EMT,eInt]
 refine mU e (.condT rfl (.skip (Mir.toK (.seqK (.block (.seqK (.guard fun q6=>?_))))))) h
 replace q6 := okStr_ok q6
 refine .region fun e h=>?_
 simp only [seval,EMT,und_146,und_21,und_9,rune_enc,q6,eInt]
 refine mU e (.region fun e h=>?_) h
 simp only [seval,EMT,eInt]
 refine mU e (.region fun e h=>?_) h
 simp only [seval,EMT,(nr rfl : IntKind.i64.wrap 4 = 4),eInt]
 refine Mir.useN (e := e) ?_ h
 refine .seqK (.sR fun e h=>?_)
 simp only [seval,EMT,eInt]
 refine mU e (.condT rfl (.skip (Mir.toK (.seqK (.block (.seqK (.guard fun q7=>?_))))))) h
 replace q7 := okStr_ok q7
 refine .region fun e h=>?_
 simp only [seval,EMT,und_146,und_21,und_9,rune_enc,q7,eInt]
 refine mU e (.region fun e h=>?_) h
 simp only [seval,EMT,eInt]
 refine mU e (.region fun e h=>?_) h
 simp only [seval,EMT,(nr rfl : IntKind.i64.wrap 5 = 5),eInt]
 refine Mir.useN (e := e) ?_ h
 refine .seqK (.sR fun e h=>?_)
 simp only [seval,EMT,eInt]
 refine mU e (.condT rfl (.skip (Mir.toK (.seqK (.block (.seqK (.guard fun q8=>?_))))))) h
 replace q8 := okStr_ok q8
 refine .region fun e h=>?_
 simp only [seval,EMT,und_146,und_21,und_9,rune_enc,q8,eInt]
 refine mU e (.region fun e h=>?_) h
 simp only [seval,EMT,eInt]
 refine mU e (.region fun e h=>?_) h
 simp only [seval,EMT,(nr rfl : IntKind.i64.wrap 6 = 6),eInt]
 refine Mir.useN (e := e) ?_ h
 refine .seqK (.sR fun e h=>?_)
 simp only [seval,EMT,eInt]
 refine mU e (.condT rfl (.skip (Mir.toK (.seqK (.block (.seqK (.guard fun q9=>?_))))))) h
 replace q9 := okStr_ok q9
 refine .region fun e h=>?_
 simp only [seval,EMT,und_146,und_21,und_9,rune_enc,q9,eInt]
 refine mU e (.region fun e h=>?_) h
 simp only [seval,EMT,eInt]
 refine mU e (.region fun e h=>?_) h
 simp only [seval,EMT,(nr rfl : IntKind.i64.wrap 7 = 7),eInt]
 refine Mir.useN (e := e) ?_ h
 refine .seqK (.sR fun e h=>?_)
 simp only [seval,EMT,eInt]
 refine mU e (.condT rfl (.skip (Mir.toK (.seqK (.block (.seqK (.guard fun q10=>?_))))))) h
 replace q10 := okStr_ok q10
 refine .region fun e h=>?_
 simp only [seval,EMT,und_146,und_21,und_9,rune_enc,q10,eInt]
 refine mU e (.region fun e h=>?_) h
 simp only [seval,EMT,eInt]
 refine mU e (.region fun e h=>?_) h
 simp only [seval,EMT,(nr rfl : IntKind.i64.wrap 8 = 8),eInt]
 refine Mir.useN (e := e) ?_ h
 refine .seqK (.sR fun e h=>?_)
 simp only [seval,EMT,eInt]
 refine mU e (.condT rfl (.skip (Mir.toK (.seqK (.block (.seqK (.guard fun q11=>?_))))))) h
 replace q11 := okStr_ok q11
 refine .region fun e h=>?_
 simp only [seval,EMT,und_146,und_21,und_9,rune_enc,q11,eInt]
 refine mU e (.region fun e h=>?_) h
 simp only [seval,EMT,eInt]
 refine mU e (.region fun e h=>?_) h
 simp only [seval,EMT,(nr rfl : IntKind.i64.wrap 9 = 9),eInt]
 refine Mir.useN (e := e) ?_ h
 refine .seqK (.sR fun e h=>?_)
 simp only [seval,EMT,eInt]
 refine mU e (.condF rfl (.exit fun e h=>?_)) h
 cases h
 simp only [seval,FMT,eInt,Tryz.results153]
 intro v2
 refine Mir.toK (.region fun e h=>?_)
 simp only [seval,EMT,eInt]
 cases h
 simp only [seval,FMT,eInt,Tryz.results153,q2]
 intro v1 q12
 refine .seqK (.sR fun e h=>?_)
 simp only [seval,EMT,fld_92_1,sz_90,ag_90,und_90,q12,eInt]
 refine mU e (.condF rfl (.exit fun e h=>?_)) h
 cases h
 simp only [seval,FMT,eInt,Tryz.results153]
 intro v3
 refine Mir.toK (.seqK (Mir.joinO (fun v5 : (List UInt8)=>([U,.ptr 0 0,U,.d (.str v5)] ++ us 42)) (fun v5=>⟨[[.d (.bool a0.Neg),.d (.list (List.map (eInt .u32) a0.Limbs))]],[]⟩) (fun _=>rfl) ?_ ?_))
 refine .block (Mir.loop (fun v4 : (List UInt8)=>([U,.ptr 0 0,U,.d (.str v4)] ++ us 42)) (fun v4=>⟨[[.d (.bool a0.Neg),.d (.list (List.map (eInt .u32) a0.Limbs))]],[]⟩) (fun _=>rfl) (by simp only [seval,FMT,eInt]) (by simp only [seval,FMT,eInt]) fun v4=>.seqK (.seqK (.bind fun c1 q13=>?_)))
 replace q13 := gt_ok q13
 simp only [Int.reduceToNat,Int.reduceLT,Nat.sub_zero,dp0] at q13
 refine .region fun e h=>?_
 simp only [seval,EMT,und_9,q13,eInt]
 refine mU e (.cond rfl (fun h1=>?_) (fun h1=>?_)) h
 refine .skip (Mir.toK (.block (.bind fun s1 q14=>?_)))
 replace q14 := cutF_ok q14
 simp only [Int.reduceToNat,Int.reduceLT,Nat.sub_zero,dp0] at q14
 refine .region fun e h=>?_
 simp only [seval,EMT,und_9,q14,Nat.le_refl,and_true,true_and,dm,tm,eInt]
 cases h
 simp only [seval,FMT,eInt,Tryz.results153]
 refine .exit fun e h=>?_
 cases h
 simp only [seval,FMT,eInt,Tryz.results153]
 intro v5
 refine Mir.toK (.seqK (.sR fun e h=>?_))
 simp only [seval,EMT,fld_92_0,sz_4,ag_4,eInt]
 refine mU e (Mir.joinO (fun v6 : (List UInt8)=>([U,U,U,.d (.str v6)] ++ us 42)) (fun v6=>⟨[[.d (.bool a0.Neg),.d (.list (List.map (eInt .u32) a0.Limbs))]],[]⟩) (fun _=>rfl) ?_ ?_) h
 refine .cond rfl (fun h2=>?_) (fun h2=>?_)
 refine .guard fun q15=>?_
 replace q15 := okStr_ok q15
 try simp only [lm,xNA,xCA,xAN,xLC,xLN,xAC,xAL,nA,Nat.zero_add] at q15
 refine .region fun e h=>?_
 simp only [seval,EMT,q15,eInt]
 cases h
 simp only [seval,FMT,eInt,Tryz.results153]
 refine .skip fun e h=>?_
 cases h
 simp only [seval,FMT,eInt,Tryz.results153]
 intro v6
 refine Mir.toK (.sR fun e h=>?_)
 simp only [seval,EMT,eInt]
 refine mU e (.ret fun e h=>?_) h
 cases h
 simp only [seval,FMT,eInt,Tryz.results153]
def r06_shown (a0 : ApiInt) (a1 : Int) : Option (List UInt8) := bindO (r01_Format a0) fun (y1 : (List UInt8))=>bindO (gt y1 0) fun (c1 : UInt8)=>bindO (if ((c1.toNat : Int) == 45) = true then bindO (cutF y1 1) fun (s1 : (List UInt8))=>some (s1,[45]) else some (y1,[])) fun (v1 : (List UInt8) × (List UInt8))=>bindO (loopX (fun (v2 : (List UInt8))=>if (decide ((v2.length : Int) ≤ a1)) = true then guardO (okStr [48] v2) ( some (.go ([48] ++ v2))) else some (.ret v2)) fuel v1.1) fun (v3 : (List UInt8))=>if (a1 == 0) = true then guardO (okStr v1.2 v3) ( some (v1.2 ++ v3)) else bindO (cutT v3 (IntKind.i64.wrap ((v3.length : Int) - a1))) fun (s2 : (List UInt8))=>guardO (okStr v1.2 s2) ( guardO (okStr (v1.2 ++ s2) [46]) ( bindO (cutF v3 (IntKind.i64.wrap ((v3.length : Int) - a1))) fun (s3 : (List UInt8))=>guardO (okStr ((v1.2 ++ s2) ++ [46]) s3) ( some (((v1.2 ++ s2) ++ [46]) ++ s3))))
theorem r06_shown_spec {a0 : ApiInt} {a1 : Int} {y : (List UInt8)} (h : r06_shown a0 a1 = some y) : Spec gP 118 [.agg [.d (.bool a0.Neg),.d (.list (List.map (eInt .u32) a0.Limbs))],.d (.int .i64 a1)] (.d (.str y)) := by
 refine spec_mir Tryz.func118 rfl (by kernel_rfl) (by kernel_rfl) (fun y : (List UInt8)=>.d (.str y)) ?_ h
 unfold r06_shown
 simp only [List.replicate,List.length,nS,nA,Tryz.ntmps118,SV]
 refine .sR fun e h=>?_
 simp only [seval,EMT,eInt]
 refine mU e (.seqK (.bind fun y1 hy1=>.region fun e h=>?_)) h
 simp only [seval,EMT,ag_92,sz_92,eInt]
 refine SpecS.by (r01_Format_spec hy1) (by simp only [seval,FMT,eInt]) ?_
 simp only [seval,EMT,eInt]
 refine mU e (.sR fun e h=>?_) h
 simp only [seval,EMT,eInt]
 refine mU e (.seqK (.seqK (.bind fun c1 q2=>?_))) h
 replace q2 := gt_ok q2
 simp only [Int.reduceToNat,Int.reduceLT,Nat.sub_zero,dp0] at q2
 refine .region fun e h=>?_
 simp only [seval,EMT,und_9,q2,eInt]
 refine mU e (Mir.joinO (fun v1 : (List UInt8) × (List UInt8)=>([U,.d (.int .i64 a1),U,U,U,.d (.str v1.1),.d (.str v1.2)] ++ us 33)) (fun v1=>⟨[[.d (.bool a0.Neg),.d (.list (List.map (eInt .u32) a0.Limbs))]],[]⟩) (fun _=>rfl) ?_ ?_) h
 refine .cond rfl (fun hb5=>?_) (fun hb5=>?_)
 refine .bind fun s1 q6=>?_
 replace q6 := cutF_ok q6
 simp only [Int.reduceToNat,Int.reduceLT,Nat.sub_zero,dp0] at q6
 refine .regionD [] (by kernel_rfl) fun e h=>?_
 simp only [seval,EMT,SB,und_9,q6,Nat.le_refl,and_true,true_and,dm,tm,eInt]
 cases h
 simp only [seval,FMT,eInt,Tryz.results118]
 refine .skip fun e h=>?_
 cases h
 simp only [seval,FMT,eInt,Tryz.results118]
 intro v1
 refine Mir.toK (.seqK (Mir.joinO (fun v3 : (List UInt8)=>([U,.d (.int .i64 a1),U,U,U,.d (.str v3),.d (.str v1.2)] ++ us 33)) (fun v3=>⟨[[.d (.bool a0.Neg),.d (.list (List.map (eInt .u32) a0.Limbs))]],[]⟩) (fun _=>rfl) ?_ ?_))
 refine .block (Mir.loop (fun v2 : (List UInt8)=>([U,.d (.int .i64 a1),U,U,U,.d (.str v2),.d (.str v1.2)] ++ us 33)) (fun v2=>⟨[[.d (.bool a0.Neg),.d (.list (List.map (eInt .u32) a0.Limbs))]],[]⟩) (fun _=>rfl) (by simp only [seval,FMT,eInt]) (by simp only [seval,FMT,eInt]) fun v2=>.seqK (.sR fun e h=>?_))
 simp only [seval,EMT,und_9,eInt]
 refine mU e (.cond rfl (fun hb23=>?_) (fun hb23=>?_)) h
 refine .skip (Mir.toK (.block (.guard fun q24=>?_)))
 replace q24 := okStr_ok q24
 try simp only [lm,xNA,xCA,xAN,xLC,xLN,xAC,xAL,nA,Nat.zero_add] at q24
 refine .region fun e h=>?_
 simp only [seval,EMT,q24,eInt]
 cases h
 simp only [seval,FMT,eInt,Tryz.results118]
 refine .exit fun e h=>?_
 cases h
 simp only [seval,FMT,eInt,Tryz.results118]
 intro v3
 refine Mir.toK (.sR fun e h=>?_)
 simp only [seval,EMT,und_9,eInt]
 refine mU e (.seqK (.sR fun e h=>?_)) h
 simp only [seval,EMT,eInt]
 refine mU e (.cond rfl (fun hb27=>?_) (fun hb27=>?_)) h
 refine .seqK (.guard fun q28=>?_)
 replace q28 := okStr_ok q28
 refine .region fun e h=>?_
 simp only [seval,EMT,q28,eInt]
 refine mU e (.ret fun e h=>?_) h
 cases h
 simp only [seval,FMT,eInt,Tryz.results118]
 refine .skip (Mir.toK (.seqK (.bind fun s2 q29=>?_)))
 replace q29 := cutT_ok q29
 refine .guard fun q30=>?_
 replace q30 := okStr_ok q30
 refine .guard fun q31=>?_
 replace q31 := okStr_ok q31
 try simp only [lm,xNA,xCA,xAN,xLC,xLN,xAC,xAL,nA,Nat.zero_add] at q31
 refine .bind fun s3 q32=>?_
 replace q32 := cutF_ok q32
 refine .guard fun q33=>?_
 replace q33 := okStr_ok q33
 try simp only [lm,xNA,xCA,xAN,xLC,xLN,xAC,xAL,nA,Nat.zero_add] at q33
 refine .regionD [] (by kernel_rfl) fun e h=>?_
 simp only [seval,EMT,SB,und_9,q29,Nat.le_refl,and_true,true_and,dm,tm,q30,q31,q32,q33,eInt]
 refine mU e (.ret fun e h=>?_) h
 cases h
 simp only [seval,FMT,eInt,Tryz.results118]
def r06_Exact (a0 : ApiRat) : Option ((List UInt8) × Bool) := bindX (loopX (fun (v1 : Int)=>if (decide (v1 ≤ 30)) = true then bindO (r06_Power v1) fun (y1 : ApiRat)=>bindO (r02_Mul (ApiRat.mk a0.Num a0.Den) y1) fun (y2 : ApiRat)=>bindO (r01_FromInt64 1) fun (y3 : ApiInt)=>bindO (r01_Same y2.Den y3) fun (y4 : Bool)=>if y4 = true then bindO (r06_shown y2.Num v1) fun (y5 : (List UInt8))=>if (decide ((y5.length : Int) > 1000)) = true then some (.ret (.ret ([],false))) else some (.ret (.ret (y5,true))) else some (.go (IntKind.i64.wrap (v1 + 1))) else some (.ret (.go ()))) fuel 0) fun (v2 : Unit)=>some ([],false)
theorem r06_Exact_spec {a0 : ApiRat} {y : (List UInt8) × Bool} (h : r06_Exact a0 = some y) : Spec gP 83 [.agg [.d (.bool a0.Num.Neg),.d (.list (List.map (eInt .u32) a0.Num.Limbs)),.d (.bool a0.Den.Neg),.d (.list (List.map (eInt .u32) a0.Den.Limbs))]] (.tuple [.d (.str y.1),.d (.bool y.2)]) := by
 refine spec_mir Tryz.func83 rfl (by kernel_rfl) (by kernel_rfl) (fun y : (List UInt8) × Bool=>.tuple [.d (.str y.1),.d (.bool y.2)]) ?_ h
 unfold r06_Exact
 simp only [List.replicate,List.length,nS,nA,Tryz.ntmps83,SV]
 refine .sR fun e h=>?_
 simp only [seval,EMT,eInt]
 refine mU e (.seqK (.sR fun e h=>?_)) h
 simp only [seval,EMT,eInt]
 refine mU e (Mir.join (fun v2 : Unit=>(us 27)) (fun v2=>⟨[[.d (.bool a0.Num.Neg),.d (.list (List.map (eInt .u32) a0.Num.Limbs)),.d (.bool a0.Den.Neg),.d (.list (List.map (eInt .u32) a0.Den.Limbs))]],[]⟩) (fun _=>rfl) ?_ ?_) h
 refine .block (Mir.loop (fun v1 : Int=>([U,.ptr 0 0,U,U,.d (.int .i64 v1)] ++ us 22)) (fun v1=>⟨[[.d (.bool a0.Num.Neg),.d (.list (List.map (eInt .u32) a0.Num.Limbs)),.d (.bool a0.Den.Neg),.d (.list (List.map (eInt .u32) a0.Den.Limbs))]],[]⟩) (fun _=>rfl) (by simp only [seval,FMT,eInt]) (by simp only [seval,FMT,eInt]) fun v1=>.seqK (.sR fun e h=>?_))
 simp only [seval,EMT,eInt]
 refine mU e (.cond rfl (fun h1=>?_) (fun h1=>?_)) h
 refine .skip (Mir.toK (.seqK (.block (.seqK (.bind fun y1 h2=>.bind fun y2 h3=>.regionD [] (by kernel_rfl) fun e h=>?_)))))
 simp only [seval,EMT,SB,ag_94,sz_94,eInt]
 refine Spec.by (r06_Power_spec h2) (by simp only [seval,FMT,eInt]) ?_
 simp only [seval,EMT,SB,eInt]
 refine Spec.by (r02_Mul_spec h3) (by simp only [seval,FMT,eInt]) ?_
 simp only [seval,EMT,SB,zero_94,sz_94,eInt]
 refine mU e (.seqK (.bind fun y3 h4=>.bind fun y4 h5=>.regionD [] (by kernel_rfl) fun e h=>?_)) h
 simp only [seval,EMT,SB,fld_94_1,sz_92,ag_92,eInt]
 refine Spec.by (r01_FromInt64_spec h4) (by simp only [seval,FMT,eInt]) ?_
 simp only [seval,EMT,SB,eInt]
 refine Spec.by (r01_Same_spec h5) (by simp only [seval,FMT,eInt]) ?_
 simp only [seval,EMT,SB,eInt]
 refine mU e (.cond rfl (fun h6=>?_) (fun h6=>?_)) h
 refine .seqK (.bind fun y5 h7=>.region fun e h=>?_)
 simp only [seval,EMT,fld_94_0,sz_92,ag_92,eInt]
 refine SpecS.by (r06_shown_spec h7) (by simp only [seval,FMT,eInt]) ?_
 simp only [seval,EMT,eInt]
 refine mU e (.seqK (.sR fun e h=>?_)) h
 simp only [seval,EMT,und_9,eInt]
 refine mU e (.cond rfl (fun h8=>?_) (fun h8=>?_)) h
 refine .sR fun e h=>?_
 simp only [seval,EMT,eInt]
 refine mU e (.ret fun e h=>?_) h
 cases h
 simp only [seval,FMT,eInt,Tryz.results83]
 refine .skip (Mir.toK (.sR fun e h=>?_))
 simp only [seval,EMT,eInt]
 refine mU e (.ret fun e h=>?_) h
 cases h
 simp only [seval,FMT,eInt,Tryz.results83]
 refine .skip (Mir.toB (Mir.toK (.region fun e h=>?_)))
 simp only [seval,EMT,eInt]
 cases h
 simp only [seval,FMT,eInt,Tryz.results83]
 refine .exit fun e h=>?_
 cases h
 simp only [seval,FMT,eInt,Tryz.results83]
 intro v2
 refine Mir.toK (.sR fun e h=>?_)
 simp only [seval,EMT,eInt]
 refine mU e (.ret fun e h=>?_) h
 cases h
 simp only [seval,FMT,eInt,Tryz.results83]
def r06_Millimetres (a0 : Int) : Option (List UInt8) := bindO (r02_Frac a0 1000) fun (y1 : ApiRat)=>bindO (r06_Exact y1) fun (y2 : (List UInt8) × Bool)=>some y2.1
theorem r06_Millimetres_spec {a0 : Int} {y : (List UInt8)} (h : r06_Millimetres a0 = some y) : Spec gP 61 [.d (.int .i64 a0)] (.d (.str y)) := by
 refine spec_mir Tryz.func61 rfl (by kernel_rfl) (by kernel_rfl) (fun y : (List UInt8)=>.d (.str y)) ?_ h
 unfold r06_Millimetres
 simp only [List.replicate,List.length,nS,nA,Tryz.ntmps61,SV]
 refine .sR fun e h=>?_
 simp only [seval,EMT]
 refine mU e (.seqK (.bind fun y1 hy1=>.bind fun y2 hy2=>.region fun e h=>?_)) h
 simp only [seval,EMT]
 refine SpecS.by (r02_Frac_spec hy1) (by simp only [seval,FMT]) ?_
 simp only [seval,EMT]
 refine SpecS.by (r06_Exact_spec hy2) (by simp only [seval,FMT]) ?_
 simp only [seval,EMT]
 refine mU e (.sR fun e h=>?_) h
 simp only [seval,EMT]
 refine mU e (.ret fun e h=>?_) h
 cases h
 simp only [seval,FMT,Tryz.results61]
def stringslite_HasPrefix (a0 : (List UInt8)) (a1 : (List UInt8)) : Option Bool := bindO (if (decide ((a0.length : Int) ≥ (a1.length : Int))) = true then bindO (cutT a0 (a1.length : Int)) fun (s1 : (List UInt8))=>some (s1 == a1) else some false) fun (v1 : Bool)=>some v1
theorem stringslite_HasPrefix_spec {a0 : (List UInt8)} {a1 : (List UInt8)} {y : Bool} (h : stringslite_HasPrefix a0 a1 = some y) : Spec gP 131 [.d (.str a0),.d (.str a1)] (.d (.bool y)) := by
 refine spec_mir Tryz.func131 rfl (by kernel_rfl) (by kernel_rfl) (fun y : Bool=>.d (.bool y)) ?_ h
 unfold stringslite_HasPrefix
 simp only [List.replicate,List.length,nS,nA,Tryz.ntmps131,SV]
 refine .sR fun e h=>?_
 simp only [seval,EMT]
 refine mU e (.seqK (Mir.joinO (fun v1 : Bool=>([U,U,U,U,.d (.bool v1)] ++ us 13)) (fun v1=>⟨[],[]⟩) (fun _=>rfl) ?_ ?_)) h
 refine .ite (fun hb1=>?_) (fun hb1=>?_)
 refine .bind fun s1 q2=>?_
 replace q2 := cutT_ok q2
 refine .region fun e h=>?_
 simp only [seval,EMT,und_9,q2,Nat.le_refl,and_true,true_and,dm,tm,hb1]
 cases h
 simp only [seval,FMT,hb1]
 refine .region fun e h=>?_
 simp only [seval,EMT,und_9,hb1]
 cases h
 simp only [seval,FMT,hb1]
 intro v1
 refine Mir.toK (.ret fun e h=>?_)
 cases h
 simp only [seval,FMT,Tryz.results131]
def stringslite_CutPrefix (a0 : (List UInt8)) (a1 : (List UInt8)) : Option ((List UInt8) × Bool) := bindO (stringslite_HasPrefix a0 a1) fun (y1 : Bool)=>if (!y1) = true then some (a0,false) else bindO (cutF a0 (a1.length : Int)) fun (s1 : (List UInt8))=>some (s1,true)
theorem stringslite_CutPrefix_spec {a0 : (List UInt8)} {a1 : (List UInt8)} {y : (List UInt8) × Bool} (h : stringslite_CutPrefix a0 a1 = some y) : Spec gP 124 [.d (.str a0),.d (.str a1)] (.tuple [.d (.str y.1),.d (.bool y.2)]) := by
 refine spec_mir Tryz.func124 rfl (by kernel_rfl) (by kernel_rfl) (fun y : (List UInt8) × Bool=>.tuple [.d (.str y.1),.d (.bool y.2)]) ?_ h
 unfold stringslite_CutPrefix
 simp only [List.replicate,List.length,nS,nA,Tryz.ntmps124,SV]
 refine .sR fun e h=>?_
 simp only [seval,EMT]
 refine mU e (.seqK (.seqK (.bind fun y1 hy1=>.region fun e h=>?_))) h
 simp only [seval,EMT]
 refine SpecS.by (stringslite_HasPrefix_spec hy1) (by simp only [seval,FMT]) ?_
 simp only [seval,EMT]
 refine mU e (.cond rfl (fun hb3=>?_) (fun hb3=>?_)) h
 refine .sR fun e h=>?_
 simp only [seval,EMT]
 refine mU e (.ret fun e h=>?_) h
 cases h
 simp only [seval,FMT,Tryz.results124]
 refine .skip (Mir.toK (.seqK (.bind fun s1 q4=>?_)))
 replace q4 := cutF_ok q4
 refine .region fun e h=>?_
 simp only [seval,EMT,und_9,q4,Nat.le_refl,and_true,true_and,dm,tm]
 refine mU e (.ret fun e h=>?_) h
 cases h
 simp only [seval,FMT,Tryz.results124]
def strings_CutPrefix (a0 : (List UInt8)) (a1 : (List UInt8)) : Option ((List UInt8) × Bool) := bindO (stringslite_CutPrefix a0 a1) fun (y1 : (List UInt8) × Bool)=>some (y1.1,y1.2)
theorem strings_CutPrefix_spec {a0 : (List UInt8)} {a1 : (List UInt8)} {y : (List UInt8) × Bool} (h : strings_CutPrefix a0 a1 = some y) : Spec gP 96 [.d (.str a0),.d (.str a1)] (.tuple [.d (.str y.1),.d (.bool y.2)]) := by
 refine spec_mir Tryz.func96 rfl (by kernel_rfl) (by kernel_rfl) (fun y : (List UInt8) × Bool=>.tuple [.d (.str y.1),.d (.bool y.2)]) ?_ h
 unfold strings_CutPrefix
 simp only [List.replicate,List.length,nS,nA,Tryz.ntmps96,SV]
 refine .sR fun e h=>?_
 simp only [seval,EMT]
 refine mU e (.seqK (.bind fun y1 hy1=>.region fun e h=>?_)) h
 simp only [seval,EMT]
 refine SpecS.by (stringslite_CutPrefix_spec hy1) (by simp only [seval,FMT]) ?_
 simp only [seval,EMT]
 refine mU e (.ret fun e h=>?_) h
 cases h
 simp only [seval,FMT,Tryz.results96]
def stringslite_Index (a0 : (List UInt8)) (a1 : (List UInt8)) : Option Int := if (((a1.length : Int) == 0) || (a1 == a0)) = true then some 0 else if ((a1.length : Int) == 1) = true then bindO (gt a1 0) fun (c1 : UInt8)=>bindO (stringslite_IndexByte a0 (c1.toNat : Int)) fun (y1 : Int)=>some y1 else if (decide ((a1.length : Int) ≥ (a0.length : Int))) = true then some (-1) else none
theorem stringslite_Index_spec {a0 : (List UInt8)} {a1 : (List UInt8)} {y : Int} (h : stringslite_Index a0 a1 = some y) : Spec gP 65 [.d (.str a0),.d (.str a1)] (.d (.int .i64 y)) := by
 refine spec_mir Tryz.func65 rfl (by kernel_rfl) (by kernel_rfl) (fun y : Int=>.d (.int .i64 y)) ?_ h
 unfold stringslite_Index
 simp only [List.replicate,List.length,nS,nA,Tryz.ntmps65,SV]
 refine .sR fun e h=>?_
 simp only [seval,EMT]
 refine mU e (.sR fun e h=>?_) h
 simp only [seval,EMT,und_9]
 refine mU e (.seqK (.block (.seqK (.joinV ([.d (.str a0),.d (.str a1),U,U,U,.d (.int .i64 (a1.length : Int)),U,U,U,U,U,U,U,U,U,U,.d (.bool (((a1.length : Int) == 0) || (a1 == a0)))] ++ us 126) ⟨[],[]⟩ rfl ?_ ?_)))) h
 refine SWs.region ?_
 rcases Bool.eq_false_or_eq_true ((a1.length : Int) == 0) with hb7 | hb7
 simp only [seval,EMT,SL,PB,hb7]
 simp only [seval,EMT,SL,PB,hb7]
 refine Mir.toK (.cond rfl (fun hb13=>?_) (fun hb13=>?_))
 refine .sR fun e h=>?_
 simp only [seval,EMT]
 refine mU e (.ret fun e h=>?_) h
 cases h
 simp only [seval,FMT,Tryz.results65]
 refine .sR fun e h=>?_
 simp only [seval,EMT]
 refine mU e (.cond rfl (fun hb18=>?_) (fun hb18=>?_)) h
 refine .seqK (.bind fun c1 q19=>?_)
 replace q19 := gt_ok q19
 simp only [Int.reduceToNat,Int.reduceLT,Nat.sub_zero,dp0] at q19
 refine .bind fun y1 hy20=>.region fun e h=>?_
 simp only [seval,EMT,und_9,q19]
 refine SpecS.by (stringslite_IndexByte_spec hy20) (by simp only [seval,FMT]) ?_
 simp only [seval,EMT]
 refine mU e (.ret fun e h=>?_) h
 cases h
 simp only [seval,FMT,Tryz.results65]
 refine .sR fun e h=>?_
 simp only [seval,EMT,und_9]
 refine mU e (.cond rfl (fun hb22=>?_) (fun hb22=>?_)) h
 refine .sR fun e h=>?_
 simp only [seval,EMT]
 refine mU e (.ret fun e h=>?_) h
 cases h
 simp only [seval,FMT,Tryz.results65]
 exact Mir.no
def stringslite_Cut (a0 : (List UInt8)) (a1 : (List UInt8)) : Option ((List UInt8) × (List UInt8) × Bool) := bindO (stringslite_Index a0 a1) fun (y1 : Int)=>if (decide (y1 ≥ 0)) = true then bindO (cutT a0 y1) fun (s1 : (List UInt8))=>bindO (cutF a0 (IntKind.i64.wrap (y1 + (a1.length : Int)))) fun (s2 : (List UInt8))=>some (s1,s2,true) else some (a0,[],false)
theorem stringslite_Cut_spec {a0 : (List UInt8)} {a1 : (List UInt8)} {y : (List UInt8) × (List UInt8) × Bool} (h : stringslite_Cut a0 a1 = some y) : Spec gP 48 [.d (.str a0),.d (.str a1)] (.tuple [.d (.str y.1),.d (.str y.2.1),.d (.bool y.2.2)]) := by
 refine spec_mir Tryz.func48 rfl (by kernel_rfl) (by kernel_rfl) (fun y : (List UInt8) × (List UInt8) × Bool=>.tuple [.d (.str y.1),.d (.str y.2.1),.d (.bool y.2.2)]) ?_ h
 unfold stringslite_Cut
 simp only [List.replicate,List.length,nS,nA,Tryz.ntmps48,SV]
 refine .sR fun e h=>?_
 simp only [seval,EMT]
 refine mU e (.seqK (.seqK (.bind fun y1 hy1=>.region fun e h=>?_))) h
 simp only [seval,EMT]
 refine SpecS.by (stringslite_Index_spec hy1) (by simp only [seval,FMT]) ?_
 simp only [seval,EMT]
 refine mU e (.sR fun e h=>?_) h
 simp only [seval,EMT]
 refine mU e (.cond rfl (fun hb5=>?_) (fun hb5=>?_)) h
 refine .seqK (.bind fun s1 q6=>?_)
 replace q6 := cutT_ok q6
 refine .bind fun s2 q7=>?_
 replace q7 := cutF_ok q7
 refine .regionD [] (by kernel_rfl) fun e h=>?_
 simp only [seval,EMT,SB,und_9,q6,Nat.le_refl,and_true,true_and,dm,tm,q7]
 refine mU e (.ret fun e h=>?_) h
 cases h
 simp only [seval,FMT,Tryz.results48]
 refine .skip (Mir.toK (.sR fun e h=>?_))
 simp only [seval,EMT]
 refine mU e (.ret fun e h=>?_) h
 cases h
 simp only [seval,FMT,Tryz.results48]
def strings_Cut (a0 : (List UInt8)) (a1 : (List UInt8)) : Option ((List UInt8) × (List UInt8) × Bool) := bindO (stringslite_Cut a0 a1) fun (y1 : (List UInt8) × (List UInt8) × Bool)=>some (y1.1,y1.2.1,y1.2.2)
theorem strings_Cut_spec {a0 : (List UInt8)} {a1 : (List UInt8)} {y : (List UInt8) × (List UInt8) × Bool} (h : strings_Cut a0 a1 = some y) : Spec gP 33 [.d (.str a0),.d (.str a1)] (.tuple [.d (.str y.1),.d (.str y.2.1),.d (.bool y.2.2)]) := by
 refine spec_mir Tryz.func33 rfl (by kernel_rfl) (by kernel_rfl) (fun y : (List UInt8) × (List UInt8) × Bool=>.tuple [.d (.str y.1),.d (.str y.2.1),.d (.bool y.2.2)]) ?_ h
 unfold strings_Cut
 simp only [List.replicate,List.length,nS,nA,Tryz.ntmps33,SV]
 refine .sR fun e h=>?_
 simp only [seval,EMT]
 refine mU e (.seqK (.bind fun y1 hy1=>.region fun e h=>?_)) h
 simp only [seval,EMT]
 refine SpecS.by (stringslite_Cut_spec hy1) (by simp only [seval,FMT]) ?_
 simp only [seval,EMT]
 refine mU e (.ret fun e h=>?_) h
 cases h
 simp only [seval,FMT,Tryz.results33]
def dc_plain (a0 : (List UInt8)) : Option Bool := bindO (if (a0 == []) = true then some false else bindO (strings_Trim a0 [48,49,50,51,52,53,54,55,56,57]) fun (y1 : (List UInt8))=>some (y1 == [])) fun (v1 : Bool)=>some v1
theorem dc_plain_spec {a0 : (List UInt8)} {y : Bool} (h : dc_plain a0 = some y) : Spec gP 97 [.d (.str a0)] (.d (.bool y)) := by
 refine spec_mir Tryz.func97 rfl (by kernel_rfl) (by kernel_rfl) (fun y : Bool=>.d (.bool y)) ?_ h
 unfold dc_plain
 simp only [List.replicate,List.length,nS,nA,Tryz.ntmps97,SV]
 refine .sR fun e h=>?_
 simp only [seval,EMT]
 refine mU e (.seqK (Mir.joinO (fun v1 : Bool=>([U,U,.d (.bool v1)] ++ us 7)) (fun v1=>⟨[],[]⟩) (fun _=>rfl) ?_ ?_)) h
 refine .ite (fun hb1=>?_) (fun hb1=>?_)
 refine .region fun e h=>?_
 simp only [seval,EMT,hb1]
 cases h
 simp only [seval,FMT,hb1]
 refine .bind fun y1 hy2=>.region fun e h=>?_
 simp only [seval,EMT,hb1]
 refine SpecS.by (strings_Trim_spec hy2) (by simp only [seval,FMT,hb1]) ?_
 simp only [seval,EMT,hb1]
 cases h
 simp only [seval,FMT,hb1]
 intro v1
 refine Mir.toK (.ret fun e h=>?_)
 cases h
 simp only [seval,FMT,Tryz.results97]
def dc_digits (a0 : (List UInt8)) : Option ((List UInt8) × Int × Bool) := if (decide ((a0.length : Int) > 65536)) = true then some ([],0,false) else bindO (strings_CutPrefix a0 [45]) fun (y1 : (List UInt8) × Bool)=>bindO (strings_Cut y1.1 [46]) fun (y2 : (List UInt8) × (List UInt8) × Bool)=>bindO (bindO (dc_plain y2.1) fun (y3 : Bool)=>if y3 = true then if (decide ((y2.1.length : Int) > 1)) = true then bindO (gt y2.1 0) fun (c1 : UInt8)=>if ((c1.toNat : Int) == 48) = true then some true else if y2.2.2 = true then bindO (dc_plain y2.2.1) fun (y4 : Bool)=>if y4 = true then some (decide ((y2.2.1.length : Int) > 30)) else some true else some false else if y2.2.2 = true then bindO (dc_plain y2.2.1) fun (y5 : Bool)=>if y5 = true then some (decide ((y2.2.1.length : Int) > 30)) else some true else some false else some true) fun (v1 : Bool)=>if v1 = true then some ([],0,false) else guardO (okStr y2.1 y2.2.1) ( bindO (strings_TrimLeft (y2.1 ++ y2.2.1) [48]) fun (y6 : (List UInt8))=>if (y6 == []) = true then some ([48],(y2.2.1.length : Int),!y1.2) else bindO (if y1.2 = true then guardO (okStr [45] y6) ( some ([45] ++ y6)) else some y6) fun (v2 : (List UInt8))=>some (v2,(y2.2.1.length : Int),true))
theorem dc_digits_spec {a0 : (List UInt8)} {y : (List UInt8) × Int × Bool} (h : dc_digits a0 = some y) : Spec gP 70 [.d (.str a0)] (.tuple [.d (.str y.1),.d (.int .i64 y.2.1),.d (.bool y.2.2)]) := by
 refine spec_mir Tryz.func70 rfl (by kernel_rfl) (by kernel_rfl) (fun y : (List UInt8) × Int × Bool=>.tuple [.d (.str y.1),.d (.int .i64 y.2.1),.d (.bool y.2.2)]) ?_ h
 unfold dc_digits
 simp only [List.replicate,List.length,nS,nA,Tryz.ntmps70,SV]
 refine .sR fun e h=>?_
 simp only [seval,EMT]
 refine mU e (.seqK (.sR fun e h=>?_)) h
 simp only [seval,EMT,und_9]
 refine mU e (.cond rfl (fun hb2=>?_) (fun hb2=>?_)) h
 refine .sR fun e h=>?_
 simp only [seval,EMT]
 refine mU e (.ret fun e h=>?_) h
 cases h
 simp only [seval,FMT,Tryz.results70]
 refine .skip (Mir.toK (.seqK (.bind fun y1 hy3=>.region fun e h=>?_)))
 simp only [seval,EMT]
 refine SpecS.by (strings_CutPrefix_spec hy3) (by simp only [seval,FMT]) ?_
 simp only [seval,EMT]
 refine mU e (.seqK (.bind fun y2 hy4=>.region fun e h=>?_)) h
 simp only [seval,EMT]
 refine SpecS.by (strings_Cut_spec hy4) (by simp only [seval,FMT]) ?_
 simp only [seval,EMT]
 refine mU e (.seqK (.seqK (Mir.joinO (fun v1 : Bool=>([U,U,U,U,U,U,.d (.bool y1.2),.d (.str y2.1),.d (.str y2.2.1),U,U,U,U,U,U,U,U,U,U,U,U,U,U,U,U,U,U,U,U,U,U,U,U,U,U,U,U,U,U,U,U,U,U,U,U,U,U,U,U,U,.d (.bool v1)] ++ us 16)) (fun v1=>⟨[],[]⟩) (fun _=>rfl) ?_ ?_))) h
 refine .bind fun y3 hy5=>.ite (fun hb6=>?_) (fun hb6=>?_)
 refine .ite (fun hb7=>?_) (fun hb7=>?_)
 refine .bind fun c1 q8=>?_
 replace q8 := gt_ok q8
 simp only [Int.reduceToNat,Int.reduceLT,Nat.sub_zero,dp0] at q8
 refine .ite (fun hb9=>?_) (fun hb9=>?_)
 refine .region fun e h=>?_
 simp only [seval,EMT,hb6,hb7,hb9]
 refine SpecS.by (dc_plain_spec hy5) (by simp only [seval,FMT,hb6,hb7,hb9]) ?_
 simp only [seval,EMT,und_9,q8,hb6,hb7,hb9]
 cases h
 simp only [seval,FMT,hb6,hb7,hb9]
 refine .ite (fun hb10=>?_) (fun hb10=>?_)
 refine .bind fun y4 hy11=>.ite (fun hb12=>?_) (fun hb12=>?_)
 refine .region fun e h=>?_
 simp only [seval,EMT,hb6,hb7,hb9,hb10,hb12]
 refine SpecS.by (dc_plain_spec hy5) (by simp only [seval,FMT,hb6,hb7,hb9,hb10,hb12]) ?_
 simp only [seval,EMT,und_9,q8,hb6,hb7,hb9,hb10,hb12]
 refine SpecS.by (dc_plain_spec hy11) (by simp only [seval,FMT,hb6,hb7,hb9,hb10,hb12]) ?_
 simp only [seval,EMT,und_9,hb6,hb7,hb9,hb10,hb12]
 cases h
 simp only [seval,FMT,hb6,hb7,hb9,hb10,hb12]
 refine .region fun e h=>?_
 simp only [seval,EMT,hb6,hb7,hb9,hb10,hb12]
 refine SpecS.by (dc_plain_spec hy5) (by simp only [seval,FMT,hb6,hb7,hb9,hb10,hb12]) ?_
 simp only [seval,EMT,und_9,q8,hb6,hb7,hb9,hb10,hb12]
 refine SpecS.by (dc_plain_spec hy11) (by simp only [seval,FMT,hb6,hb7,hb9,hb10,hb12]) ?_
 simp only [seval,EMT,hb6,hb7,hb9,hb10,hb12]
 cases h
 simp only [seval,FMT,hb6,hb7,hb9,hb10,hb12]
 refine .region fun e h=>?_
 simp only [seval,EMT,hb6,hb7,hb9,hb10]
 refine SpecS.by (dc_plain_spec hy5) (by simp only [seval,FMT,hb6,hb7,hb9,hb10]) ?_
 simp only [seval,EMT,und_9,q8,hb6,hb7,hb9,hb10]
 cases h
 simp only [seval,FMT,hb6,hb7,hb9,hb10]
 refine .ite (fun hb13=>?_) (fun hb13=>?_)
 refine .bind fun y5 hy14=>.ite (fun hb15=>?_) (fun hb15=>?_)
 refine .region fun e h=>?_
 simp only [seval,EMT,hb6,hb7,hb13,hb15]
 refine SpecS.by (dc_plain_spec hy5) (by simp only [seval,FMT,hb6,hb7,hb13,hb15]) ?_
 simp only [seval,EMT,und_9,hb6,hb7,hb13,hb15]
 refine SpecS.by (dc_plain_spec hy14) (by simp only [seval,FMT,hb6,hb7,hb13,hb15]) ?_
 simp only [seval,EMT,und_9,hb6,hb7,hb13,hb15]
 cases h
 simp only [seval,FMT,hb6,hb7,hb13,hb15]
 refine .region fun e h=>?_
 simp only [seval,EMT,hb6,hb7,hb13,hb15]
 refine SpecS.by (dc_plain_spec hy5) (by simp only [seval,FMT,hb6,hb7,hb13,hb15]) ?_
 simp only [seval,EMT,und_9,hb6,hb7,hb13,hb15]
 refine SpecS.by (dc_plain_spec hy14) (by simp only [seval,FMT,hb6,hb7,hb13,hb15]) ?_
 simp only [seval,EMT,hb6,hb7,hb13,hb15]
 cases h
 simp only [seval,FMT,hb6,hb7,hb13,hb15]
 refine .region fun e h=>?_
 simp only [seval,EMT,hb6,hb7,hb13]
 refine SpecS.by (dc_plain_spec hy5) (by simp only [seval,FMT,hb6,hb7,hb13]) ?_
 simp only [seval,EMT,und_9,hb6,hb7,hb13]
 cases h
 simp only [seval,FMT,hb6,hb7,hb13]
 refine .region fun e h=>?_
 simp only [seval,EMT,hb6]
 refine SpecS.by (dc_plain_spec hy5) (by simp only [seval,FMT,hb6]) ?_
 simp only [seval,EMT,hb6]
 cases h
 simp only [seval,FMT,hb6]
 intro v1
 refine Mir.toK (.cond rfl (fun hb17=>?_) (fun hb17=>?_))
 refine .sR fun e h=>?_
 simp only [seval,EMT]
 refine mU e (.ret fun e h=>?_) h
 cases h
 simp only [seval,FMT,Tryz.results70]
 refine .skip (Mir.toK (.seqK (.guard fun q18=>?_)))
 replace q18 := okStr_ok q18
 refine .bind fun y6 hy19=>.region fun e h=>?_
 simp only [seval,EMT,q18]
 refine SpecS.by (strings_TrimLeft_spec hy19) (by simp only [seval,FMT]) ?_
 simp only [seval,EMT]
 refine mU e (.seqK (.sR fun e h=>?_)) h
 simp only [seval,EMT]
 refine mU e (.cond rfl (fun hb21=>?_) (fun hb21=>?_)) h
 refine .sR fun e h=>?_
 simp only [seval,EMT,und_9]
 refine mU e (.ret fun e h=>?_) h
 cases h
 simp only [seval,FMT,Tryz.results70]
 refine .skip (Mir.toK (.seqK (.sR fun e h=>?_)))
 simp only [seval,EMT]
 refine mU e (Mir.joinO (fun v2 : (List UInt8)=>([U,U,U,U,U,U,U,U,.d (.str y2.2.1),U,.d (.str v2)] ++ us 56)) (fun v2=>⟨[],[]⟩) (fun _=>rfl) ?_ ?_) h
 refine .cond rfl (fun hb24=>?_) (fun hb24=>?_)
 refine .guard fun q25=>?_
 replace q25 := okStr_ok q25
 try simp only [lm,xNA,xCA,xAN,xLC,xLN,xAC,xAL,nA,Nat.zero_add] at q25
 refine .region fun e h=>?_
 simp only [seval,EMT,q25]
 cases h
 simp only [seval,FMT,Tryz.results70]
 refine .skip fun e h=>?_
 cases h
 simp only [seval,FMT,Tryz.results70]
 intro v2
 refine Mir.toK (.sR fun e h=>?_)
 simp only [seval,EMT,und_9]
 refine mU e (.ret fun e h=>?_) h
 cases h
 simp only [seval,FMT,Tryz.results70]
def bits_Mul64 (a0 : Int) (a1 : Int) : Option (Int × Int) := some (IntKind.u64.wrap ((IntKind.u64.wrap ((IntKind.u64.wrap ((shrI .u64 a0 32) * (shrI .u64 a1 32))) + (shrI .u64 (IntKind.u64.wrap ((IntKind.u64.wrap ((shrI .u64 a0 32) * (andI .u64 a1 4294967295))) + (shrI .u64 (IntKind.u64.wrap ((andI .u64 a0 4294967295) * (andI .u64 a1 4294967295))) 32))) 32))) + (shrI .u64 (IntKind.u64.wrap ((andI .u64 (IntKind.u64.wrap ((IntKind.u64.wrap ((shrI .u64 a0 32) * (andI .u64 a1 4294967295))) + (shrI .u64 (IntKind.u64.wrap ((andI .u64 a0 4294967295) * (andI .u64 a1 4294967295))) 32))) 4294967295) + (IntKind.u64.wrap ((andI .u64 a0 4294967295) * (shrI .u64 a1 32))))) 32)),IntKind.u64.wrap (a0 * a1))
theorem bits_Mul64_spec {a0 : Int} {a1 : Int} {y : Int × Int} (h : bits_Mul64 a0 a1 = some y) : Spec gP 130 [.d (.int .u64 a0),.d (.int .u64 a1)] (.tuple [.d (.int .u64 y.1),.d (.int .u64 y.2)]) := by
 refine spec_mir Tryz.func130 rfl (by kernel_rfl) (by kernel_rfl) (fun y : Int × Int=>.tuple [.d (.int .u64 y.1),.d (.int .u64 y.2)]) ?_ h
 unfold bits_Mul64
 simp only [List.replicate,List.length,nS,nA,Tryz.ntmps130,SV]
 refine .sR fun e h=>?_
 simp only [seval,EMT]
 refine mU e (.sR fun e h=>?_) h
 simp only [seval,EMT]
 refine mU e (.sR fun e h=>?_) h
 simp only [seval,EMT]
 refine mU e (.sR fun e h=>?_) h
 simp only [seval,EMT]
 refine mU e (.sR fun e h=>?_) h
 simp only [seval,EMT]
 refine mU e (.sR fun e h=>?_) h
 simp only [seval,EMT]
 refine mU e (.sR fun e h=>?_) h
 simp only [seval,EMT]
 refine mU e (.sR fun e h=>?_) h
 simp only [seval,EMT]
 refine mU e (.sR fun e h=>?_) h
 simp only [seval,EMT]
 refine mU e (.sR fun e h=>?_) h
 simp only [seval,EMT]
 refine mU e (.sR fun e h=>?_) h
 simp only [seval,EMT]
 refine mU e (.sR fun e h=>?_) h
 simp only [seval,EMT]
 refine mU e (.ret fun e h=>?_) h
 cases h
 simp only [seval,FMT,Tryz.results130]
def bits_Mul (a0 : Int) (a1 : Int) : Option (Int × Int) := bindO (bits_Mul64 a0 a1) fun (y1 : Int × Int)=>some (y1.1,y1.2)
theorem bits_Mul_spec {a0 : Int} {a1 : Int} {y : Int × Int} (h : bits_Mul a0 a1 = some y) : Spec gP 99 [.d (.int .u64 a0),.d (.int .u64 a1)] (.tuple [.d (.int .u64 y.1),.d (.int .u64 y.2)]) := by
 refine spec_mir Tryz.func99 rfl (by kernel_rfl) (by kernel_rfl) (fun y : Int × Int=>.tuple [.d (.int .u64 y.1),.d (.int .u64 y.2)]) ?_ h
 unfold bits_Mul
 simp only [List.replicate,List.length,nS,nA,Tryz.ntmps99,SV]
 refine .sR fun e h=>?_
 simp only [seval,EMT]
 refine mU e (.seqK (.condF rfl (.skip (Mir.toK (.seqK (.bind fun y1 hy1=>.region fun e h=>?_)))))) h
 simp only [seval,EMT]
 refine SpecS.by (bits_Mul64_spec hy1) (by simp only [seval,FMT]) ?_
 simp only [seval,EMT]
 refine mU e (.sR fun e h=>?_) h
 simp only [seval,EMT]
 refine mU e (.ret fun e h=>?_) h
 cases h
 simp only [seval,FMT,Tryz.results99]
def strings_HasPrefix (a0 : (List UInt8)) (a1 : (List UInt8)) : Option Bool := bindO (stringslite_HasPrefix a0 a1) fun (y1 : Bool)=>some y1
theorem strings_HasPrefix_spec {a0 : (List UInt8)} {a1 : (List UInt8)} {y : Bool} (h : strings_HasPrefix a0 a1 = some y) : Spec gP 100 [.d (.str a0),.d (.str a1)] (.d (.bool y)) := by
 refine spec_mir Tryz.func100 rfl (by kernel_rfl) (by kernel_rfl) (fun y : Bool=>.d (.bool y)) ?_ h
 unfold strings_HasPrefix
 simp only [List.replicate,List.length,nS,nA,Tryz.ntmps100,SV]
 refine .sR fun e h=>?_
 simp only [seval,EMT]
 refine mU e (.seqK (.bind fun y1 hy1=>.region fun e h=>?_)) h
 simp only [seval,EMT]
 refine SpecS.by (stringslite_HasPrefix_spec hy1) (by simp only [seval,FMT]) ?_
 simp only [seval,EMT]
 refine mU e (.ret fun e h=>?_) h
 cases h
 simp only [seval,FMT,Tryz.results100]
def strings_Repeat (a0 : (List UInt8)) (a1 : Int) : Option (List UInt8) := if (a1 == 0) = true then some [] else if (a1 == 1) = true then some a0 else if (decide (a1 < 0)) = true then none else bindO (bits_Mul (IntKind.u64.wrap (a0.length : Int)) (IntKind.u64.wrap a1)) fun (y1 : Int × Int)=>if ((decide (y1.1 > 0)) || (decide (y1.2 > 9223372036854775807))) = true then none else if ((a0.length : Int) == 0) = true then some [] else bindO (gt a0 0) fun (c1 : UInt8)=>bindX (bindO (if ((c1.toNat : Int) == 32) = true then some ((c1.toNat : Int) == 32) else if ((c1.toNat : Int) == 45) = true then some ((c1.toNat : Int) == 45) else if ((c1.toNat : Int) == 48) = true then some ((c1.toNat : Int) == 48) else if ((c1.toNat : Int) == 61) = true then some ((c1.toNat : Int) == 61) else some ((c1.toNat : Int) == 9)) fun (v1 : Bool)=>if v1 = true then bindO (if (decide ((IntKind.i64.wrap y1.2) ≤ 128)) = true then bindO (strings_HasPrefix [32,32,32,32,32,32,32,32,32,32,32,32,32,32,32,32,32,32,32,32,32,32,32,32,32,32,32,32,32,32,32,32,32,32,32,32,32,32,32,32,32,32,32,32,32,32,32,32,32,32,32,32,32,32,32,32,32,32,32,32,32,32,32,32,32,32,32,32,32,32,32,32,32,32,32,32,32,32,32,32,32,32,32,32,32,32,32,32,32,32,32,32,32,32,32,32,32,32,32,32,32,32,32,32,32,32,32,32,32,32,32,32,32,32,32,32,32,32,32,32,32,32,32,32,32,32,32,32] a0) fun (y2 : Bool)=>some y2 else some false) fun (v2 : Bool)=>if v2 = true then bindO (cutT [32,32,32,32,32,32,32,32,32,32,32,32,32,32,32,32,32,32,32,32,32,32,32,32,32,32,32,32,32,32,32,32,32,32,32,32,32,32,32,32,32,32,32,32,32,32,32,32,32,32,32,32,32,32,32,32,32,32,32,32,32,32,32,32,32,32,32,32,32,32,32,32,32,32,32,32,32,32,32,32,32,32,32,32,32,32,32,32,32,32,32,32,32,32,32,32,32,32,32,32,32,32,32,32,32,32,32,32,32,32,32,32,32,32,32,32,32,32,32,32,32,32,32,32,32,32,32,32] (IntKind.i64.wrap y1.2)) fun (s1 : (List UInt8))=>some (.ret s1) else bindO (if (decide ((IntKind.i64.wrap y1.2) ≤ 128)) = true then bindO (strings_HasPrefix [45,45,45,45,45,45,45,45,45,45,45,45,45,45,45,45,45,45,45,45,45,45,45,45,45,45,45,45,45,45,45,45,45,45,45,45,45,45,45,45,45,45,45,45,45,45,45,45,45,45,45,45,45,45,45,45,45,45,45,45,45,45,45,45,45,45,45,45,45,45,45,45,45,45,45,45,45,45,45,45,45,45,45,45,45,45,45,45,45,45,45,45,45,45,45,45,45,45,45,45,45,45,45,45,45,45,45,45,45,45,45,45,45,45,45,45,45,45,45,45,45,45,45,45,45,45,45,45] a0) fun (y3 : Bool)=>some y3 else some false) fun (v3 : Bool)=>if v3 = true then bindO (cutT [45,45,45,45,45,45,45,45,45,45,45,45,45,45,45,45,45,45,45,45,45,45,45,45,45,45,45,45,45,45,45,45,45,45,45,45,45,45,45,45,45,45,45,45,45,45,45,45,45,45,45,45,45,45,45,45,45,45,45,45,45,45,45,45,45,45,45,45,45,45,45,45,45,45,45,45,45,45,45,45,45,45,45,45,45,45,45,45,45,45,45,45,45,45,45,45,45,45,45,45,45,45,45,45,45,45,45,45,45,45,45,45,45,45,45,45,45,45,45,45,45,45,45,45,45,45,45,45] (IntKind.i64.wrap y1.2)) fun (s2 : (List UInt8))=>some (.ret s2) else bindO (if (decide ((IntKind.i64.wrap y1.2) ≤ 64)) = true then bindO (strings_HasPrefix [48,48,48,48,48,48,48,48,48,48,48,48,48,48,48,48,48,48,48,48,48,48,48,48,48,48,48,48,48,48,48,48,48,48,48,48,48,48,48,48,48,48,48,48,48,48,48,48,48,48,48,48,48,48,48,48,48,48,48,48,48,48,48,48] a0) fun (y4 : Bool)=>some y4 else some false) fun (v4 : Bool)=>if v4 = true then bindO (cutT [48,48,48,48,48,48,48,48,48,48,48,48,48,48,48,48,48,48,48,48,48,48,48,48,48,48,48,48,48,48,48,48,48,48,48,48,48,48,48,48,48,48,48,48,48,48,48,48,48,48,48,48,48,48,48,48,48,48,48,48,48,48,48,48] (IntKind.i64.wrap y1.2)) fun (s3 : (List UInt8))=>some (.ret s3) else bindO (if (decide ((IntKind.i64.wrap y1.2) ≤ 128)) = true then bindO (strings_HasPrefix [61,61,61,61,61,61,61,61,61,61,61,61,61,61,61,61,61,61,61,61,61,61,61,61,61,61,61,61,61,61,61,61,61,61,61,61,61,61,61,61,61,61,61,61,61,61,61,61,61,61,61,61,61,61,61,61,61,61,61,61,61,61,61,61,61,61,61,61,61,61,61,61,61,61,61,61,61,61,61,61,61,61,61,61,61,61,61,61,61,61,61,61,61,61,61,61,61,61,61,61,61,61,61,61,61,61,61,61,61,61,61,61,61,61,61,61,61,61,61,61,61,61,61,61,61,61,61,61] a0) fun (y5 : Bool)=>some y5 else some false) fun (v5 : Bool)=>if v5 = true then bindO (cutT [61,61,61,61,61,61,61,61,61,61,61,61,61,61,61,61,61,61,61,61,61,61,61,61,61,61,61,61,61,61,61,61,61,61,61,61,61,61,61,61,61,61,61,61,61,61,61,61,61,61,61,61,61,61,61,61,61,61,61,61,61,61,61,61,61,61,61,61,61,61,61,61,61,61,61,61,61,61,61,61,61,61,61,61,61,61,61,61,61,61,61,61,61,61,61,61,61,61,61,61,61,61,61,61,61,61,61,61,61,61,61,61,61,61,61,61,61,61,61,61,61,61,61,61,61,61,61,61] (IntKind.i64.wrap y1.2)) fun (s4 : (List UInt8))=>some (.ret s4) else bindO (if (decide ((IntKind.i64.wrap y1.2) ≤ 64)) = true then bindO (strings_HasPrefix [9,9,9,9,9,9,9,9,9,9,9,9,9,9,9,9,9,9,9,9,9,9,9,9,9,9,9,9,9,9,9,9,9,9,9,9,9,9,9,9,9,9,9,9,9,9,9,9,9,9,9,9,9,9,9,9,9,9,9,9,9,9,9,9] a0) fun (y6 : Bool)=>some y6 else some false) fun (v6 : Bool)=>if v6 = true then bindO (cutT [9,9,9,9,9,9,9,9,9,9,9,9,9,9,9,9,9,9,9,9,9,9,9,9,9,9,9,9,9,9,9,9,9,9,9,9,9,9,9,9,9,9,9,9,9,9,9,9,9,9,9,9,9,9,9,9,9,9,9,9,9,9,9,9] (IntKind.i64.wrap y1.2)) fun (s5 : (List UInt8))=>some (.ret s5) else some (.go ()) else some (.go ())) fun (v7 : Unit)=>if (decide ((IntKind.i64.wrap y1.2) > 8192)) = true then guardO (!((a0.length : Int) == 0)) ( if ((IntKind.i64.wrap ((IntKind.i64.wrap (Int.tdiv 8192 (a0.length : Int))) * (a0.length : Int))) == 0) = true then none else none) else none
theorem strings_Repeat_spec {a0 : (List UInt8)} {a1 : Int} {y : (List UInt8)} (h : strings_Repeat a0 a1 = some y) : Spec gP 72 [.d (.str a0),.d (.int .i64 a1)] (.d (.str y)) := by
 refine spec_mir Tryz.func72 rfl (by kernel_rfl) (by kernel_rfl) (fun y : (List UInt8)=>.d (.str y)) ?_ h
 unfold strings_Repeat
 simp only [List.replicate,List.length,nS,nA,Tryz.ntmps72,SV]
 refine .sR fun e h=>?_
 simp only [seval,EMT,List.append_eq,List.cons_append,List.nil_append]
 refine mU e (.seqK (.sR fun e h=>?_)) h
 simp only [seval,EMT,List.append_eq,List.cons_append,List.nil_append]
 refine mU e (.block (.sR fun e h=>?_)) h
 simp only [seval,EMT,List.append_eq,List.cons_append,List.nil_append]
 refine mU e (.cond rfl (fun hb5=>?_) (fun hb5=>?_)) h
 refine .sR fun e h=>?_
 simp only [seval,EMT,List.append_eq,List.cons_append,List.nil_append]
 refine mU e (.ret fun e h=>?_) h
 cases h
 simp only [seval,FMT,List.append_eq,List.cons_append,List.nil_append,Tryz.results72]
 refine .sR fun e h=>?_
 simp only [seval,EMT,List.append_eq,List.cons_append,List.nil_append]
 refine mU e (.cond rfl (fun hb7=>?_) (fun hb7=>?_)) h
 refine .sR fun e h=>?_
 simp only [seval,EMT,List.append_eq,List.cons_append,List.nil_append]
 refine mU e (.ret fun e h=>?_) h
 cases h
 simp only [seval,FMT,List.append_eq,List.cons_append,List.nil_append,Tryz.results72]
 refine .skip (Mir.toB (Mir.toK (.seqK (.sR fun e h=>?_))))
 simp only [seval,EMT,List.append_eq,List.cons_append,List.nil_append]
 refine mU e (.cond rfl (fun hb9=>?_) (fun hb9=>?_)) h
 exact Mir.no
 refine .skip (Mir.toK (.seqK (.bind fun y1 hy10=>.region fun e h=>?_)))
 simp only [seval,EMT,und_9,und_3,und_112,List.append_eq,List.cons_append,List.nil_append]
 refine SpecS.by (bits_Mul_spec hy10) (by simp only [seval,FMT,List.append_eq,List.cons_append,List.nil_append]) ?_
 simp only [seval,EMT,List.append_eq,List.cons_append,List.nil_append]
 refine mU e (.seqK (.seqK (.joinV ([.d (.str a0),U,U,U,U,U,.d (.int .u64 y1.2),U,U,U,U,U,U,U,U,U,U,U,U,U,U,U,U,U,U,U,U,U,U,U,U,U,U,U,.d (.bool ((decide (y1.1 > 0)) || (decide (y1.2 > 9223372036854775807))))] ++ us 90) ⟨[],[]⟩ rfl ?_ ?_))) h
 refine SWs.region ?_
 rcases Bool.eq_false_or_eq_true (decide (y1.1 > 0)) with hb11 | hb11
 simp only [seval,EMT,SL,PB,hb11,List.append_eq,List.cons_append,List.nil_append]
 simp only [seval,EMT,SL,PB,hb11,List.append_eq,List.cons_append,List.nil_append]
 refine Mir.toK (.cond rfl (fun hb13=>?_) (fun hb13=>?_))
 exact Mir.no
 refine .skip (Mir.toK (.sR fun e h=>?_))
 simp only [seval,EMT,und_112,und_3,List.append_eq,List.cons_append,List.nil_append]
 refine mU e (.seqK (.sR fun e h=>?_)) h
 simp only [seval,EMT,und_9,List.append_eq,List.cons_append,List.nil_append]
 refine mU e (.cond rfl (fun hb15=>?_) (fun hb15=>?_)) h
 refine .sR fun e h=>?_
 simp only [seval,EMT,List.append_eq,List.cons_append,List.nil_append]
 refine mU e (.ret fun e h=>?_) h
 cases h
 simp only [seval,FMT,List.append_eq,List.cons_append,List.nil_append,Tryz.results72]
 refine .skip (Mir.toK (.seqK (.seqK (.bind fun c1 q16=>?_))))
 replace q16 := gt_ok q16
 simp only [Int.reduceToNat,Int.reduceLT,Nat.sub_zero,dp0] at q16
 refine .region fun e h=>?_
 simp only [seval,EMT,und_9,q16,List.append_eq,List.cons_append,List.nil_append]
 refine mU e (Mir.join (fun v7 : Unit=>([.d (.str a0),U,U,U,U,U,U,.d (.int .i64 (IntKind.i64.wrap y1.2))] ++ us 117)) (fun v7=>⟨[],[]⟩) (fun _=>rfl) ?_ ?_) h
 refine .block (.seqK (.sR fun e h=>?_))
 simp only [seval,EMT,List.append_eq,List.cons_append,List.nil_append]
 refine mU e (Mir.joinO (fun v1 : Bool=>([.d (.str a0),U,U,U,U,U,U,.d (.int .i64 (IntKind.i64.wrap y1.2)),U,U,U,U,U,U,U,U,U,U,U,U,U,U,U,U,U,U,U,U,U,U,U,U,U,U,U,U,U,U,U,U,U,U,U,.d (.bool v1)] ++ us 81)) (fun v1=>⟨[],[]⟩) (fun _=>rfl) ?_ ?_) h
 refine .cond rfl (fun hb50=>?_) (fun hb50=>?_)
 refine .skip fun e h=>?_
 cases h
 simp only [seval,FMT,List.append_eq,List.cons_append,List.nil_append,Tryz.results72]
 refine .sR fun e h=>?_
 simp only [seval,EMT,List.append_eq,List.cons_append,List.nil_append]
 refine mU e (.cond rfl (fun hb51=>?_) (fun hb51=>?_)) h
 refine .skip fun e h=>?_
 cases h
 simp only [seval,FMT,List.append_eq,List.cons_append,List.nil_append,Tryz.results72]
 refine .sR fun e h=>?_
 simp only [seval,EMT,List.append_eq,List.cons_append,List.nil_append]
 refine mU e (.cond rfl (fun hb52=>?_) (fun hb52=>?_)) h
 refine .skip fun e h=>?_
 cases h
 simp only [seval,FMT,List.append_eq,List.cons_append,List.nil_append,Tryz.results72]
 refine .sR fun e h=>?_
 simp only [seval,EMT,List.append_eq,List.cons_append,List.nil_append]
 refine mU e (.cond rfl (fun hb53=>?_) (fun hb53=>?_)) h
 refine .skip fun e h=>?_
 cases h
 simp only [seval,FMT,List.append_eq,List.cons_append,List.nil_append,Tryz.results72]
 refine .region fun e h=>?_
 simp only [seval,EMT,List.append_eq,List.cons_append,List.nil_append]
 cases h
 simp only [seval,FMT,List.append_eq,List.cons_append,List.nil_append,Tryz.results72]
 intro v1
 refine Mir.toK (.cond rfl (fun hb54=>?_) (fun hb54=>?_))
 refine .block (.seqK (Mir.joinO (fun v2 : Bool=>([.d (.str a0),U,U,U,U,U,U,.d (.int .i64 (IntKind.i64.wrap y1.2)),U,U,U,U,U,U,U,U,U,U,U,U,U,U,U,U,U,U,U,U,U,U,U,U,U,U,U,U,U,U,U,U,U,U,U,U,U,U,U,U,U,.d (.bool v2)] ++ us 75)) (fun v2=>⟨[],[]⟩) (fun _=>rfl) ?_ ?_))
 refine .ite (fun hb55=>?_) (fun hb55=>?_)
 refine .bind fun y2 hy56=>.region fun e h=>?_
 simp only [seval,EMT,List.append_eq,List.cons_append,List.nil_append,hb55]
 refine SpecS.by (strings_HasPrefix_spec hy56) (by simp only [seval,FMT,List.append_eq,List.cons_append,List.nil_append,hb55]) ?_
 simp only [seval,EMT,List.append_eq,List.cons_append,List.nil_append,hb55]
 cases h
 simp only [seval,FMT,List.append_eq,List.cons_append,List.nil_append,hb55]
 refine .region fun e h=>?_
 simp only [seval,EMT,List.append_eq,List.cons_append,List.nil_append,hb55]
 cases h
 simp only [seval,FMT,List.append_eq,List.cons_append,List.nil_append,hb55]
 intro v2
 refine Mir.toK (.cond rfl (fun hb57=>?_) (fun hb57=>?_))
 refine .seqK (.bind fun s1 q58=>?_)
 replace q58 := cutT_ok q58
 simp only [xLC,xLN,Nat.zero_add,nA] at q58
 refine .region fun e h=>?_
 simp only [seval,EMT,und_9,q58,Nat.le_refl,and_true,true_and,dm,tm,List.append_eq,List.cons_append,List.nil_append]
 refine mU e (.ret fun e h=>?_) h
 cases h
 simp only [seval,FMT,List.append_eq,List.cons_append,List.nil_append,Tryz.results72]
 refine .seqK (Mir.joinO (fun v3 : Bool=>([.d (.str a0),U,U,U,U,U,U,.d (.int .i64 (IntKind.i64.wrap y1.2)),U,U,U,U,U,U,U,U,U,U,U,U,U,U,U,U,U,U,U,U,U,U,U,U,U,U,U,U,U,U,U,U,U,U,U,U,U,U,U,U,U,U,U,U,U,U,U,U,U,U,.d (.bool v3)] ++ us 66)) (fun v3=>⟨[],[]⟩) (fun _=>rfl) ?_ ?_)
 refine .ite (fun hb59=>?_) (fun hb59=>?_)
 refine .bind fun y3 hy60=>.region fun e h=>?_
 simp only [seval,EMT,List.append_eq,List.cons_append,List.nil_append,hb59]
 refine SpecS.by (strings_HasPrefix_spec hy60) (by simp only [seval,FMT,List.append_eq,List.cons_append,List.nil_append,hb59]) ?_
 simp only [seval,EMT,List.append_eq,List.cons_append,List.nil_append,hb59]
 cases h
 simp only [seval,FMT,List.append_eq,List.cons_append,List.nil_append,hb59]
 refine .region fun e h=>?_
 simp only [seval,EMT,List.append_eq,List.cons_append,List.nil_append,hb59]
 cases h
 simp only [seval,FMT,List.append_eq,List.cons_append,List.nil_append,hb59]
 intro v3
 refine Mir.toK (.cond rfl (fun hb61=>?_) (fun hb61=>?_))
 refine .seqK (.bind fun s2 q62=>?_)
 replace q62 := cutT_ok q62
 simp only [xLC,xLN,Nat.zero_add,nA] at q62
 refine .region fun e h=>?_
 simp only [seval,EMT,und_9,q62,Nat.le_refl,and_true,true_and,dm,tm,List.append_eq,List.cons_append,List.nil_append]
 refine mU e (.ret fun e h=>?_) h
 cases h
 simp only [seval,FMT,List.append_eq,List.cons_append,List.nil_append,Tryz.results72]
 refine .seqK (Mir.joinO (fun v4 : Bool=>([.d (.str a0),U,U,U,U,U,U,.d (.int .i64 (IntKind.i64.wrap y1.2)),U,U,U,U,U,U,U,U,U,U,U,U,U,U,U,U,U,U,U,U,U,U,U,U,U,U,U,U,U,U,U,U,U,U,U,U,U,U,U,U,U,U,U,U,U,U,U,U,U,U,U,U,U,U,U,U,U,U,U,.d (.bool v4)] ++ us 57)) (fun v4=>⟨[],[]⟩) (fun _=>rfl) ?_ ?_)
 refine .ite (fun hb63=>?_) (fun hb63=>?_)
 refine .bind fun y4 hy64=>.region fun e h=>?_
 simp only [seval,EMT,List.append_eq,List.cons_append,List.nil_append,hb63]
 refine SpecS.by (strings_HasPrefix_spec hy64) (by simp only [seval,FMT,List.append_eq,List.cons_append,List.nil_append,hb63]) ?_
 simp only [seval,EMT,List.append_eq,List.cons_append,List.nil_append,hb63]
 cases h
 simp only [seval,FMT,List.append_eq,List.cons_append,List.nil_append,hb63]
 refine .region fun e h=>?_
 simp only [seval,EMT,List.append_eq,List.cons_append,List.nil_append,hb63]
 cases h
 simp only [seval,FMT,List.append_eq,List.cons_append,List.nil_append,hb63]
 intro v4
 refine Mir.toK (.cond rfl (fun hb65=>?_) (fun hb65=>?_))
 refine .seqK (.bind fun s3 q66=>?_)
 replace q66 := cutT_ok q66
 simp only [xLC,xLN,Nat.zero_add,nA] at q66
 refine .region fun e h=>?_
 simp only [seval,EMT,und_9,q66,Nat.le_refl,and_true,true_and,dm,tm,List.append_eq,List.cons_append,List.nil_append]
 refine mU e (.ret fun e h=>?_) h
 cases h
 simp only [seval,FMT,List.append_eq,List.cons_append,List.nil_append,Tryz.results72]
 refine .seqK (Mir.joinO (fun v5 : Bool=>([.d (.str a0),U,U,U,U,U,U,.d (.int .i64 (IntKind.i64.wrap y1.2)),U,U,U,U,U,U,U,U,U,U,U,U,U,U,U,U,U,U,U,U,U,U,U,U,U,U,U,U,U,U,U,U,U,U,U,U,U,U,U,U,U,U,U,U,U,U,U,U,U,U,U,U,U,U,U,U,U,U,U,U,U,U,U,U,U,U,U,U,.d (.bool v5)] ++ us 48)) (fun v5=>⟨[],[]⟩) (fun _=>rfl) ?_ ?_)
 refine .ite (fun hb67=>?_) (fun hb67=>?_)
 refine .bind fun y5 hy68=>.region fun e h=>?_
 simp only [seval,EMT,List.append_eq,List.cons_append,List.nil_append,hb67]
 refine SpecS.by (strings_HasPrefix_spec hy68) (by simp only [seval,FMT,List.append_eq,List.cons_append,List.nil_append,hb67]) ?_
 simp only [seval,EMT,List.append_eq,List.cons_append,List.nil_append,hb67]
 cases h
 simp only [seval,FMT,List.append_eq,List.cons_append,List.nil_append,hb67]
 refine .region fun e h=>?_
 simp only [seval,EMT,List.append_eq,List.cons_append,List.nil_append,hb67]
 cases h
 simp only [seval,FMT,List.append_eq,List.cons_append,List.nil_append,hb67]
 intro v5
 refine Mir.toK (.cond rfl (fun hb69=>?_) (fun hb69=>?_))
 refine .seqK (.bind fun s4 q70=>?_)
 replace q70 := cutT_ok q70
 simp only [xLC,xLN,Nat.zero_add,nA] at q70
 refine .region fun e h=>?_
 simp only [seval,EMT,und_9,q70,Nat.le_refl,and_true,true_and,dm,tm,List.append_eq,List.cons_append,List.nil_append]
 refine mU e (.ret fun e h=>?_) h
 cases h
 simp only [seval,FMT,List.append_eq,List.cons_append,List.nil_append,Tryz.results72]
 refine .seqK (Mir.joinO (fun v6 : Bool=>([.d (.str a0),U,U,U,U,U,U,.d (.int .i64 (IntKind.i64.wrap y1.2)),U,U,U,U,U,U,U,U,U,U,U,U,U,U,U,U,U,U,U,U,U,U,U,U,U,U,U,U,U,U,U,U,U,U,U,U,U,U,U,U,U,U,U,U,U,U,U,U,U,U,U,U,U,U,U,U,U,U,U,U,U,U,U,U,U,U,U,U,U,U,U,U,U,U,U,U,U,.d (.bool v6)] ++ us 39)) (fun v6=>⟨[],[]⟩) (fun _=>rfl) ?_ ?_)
 refine .ite (fun hb71=>?_) (fun hb71=>?_)
 refine .bind fun y6 hy72=>.region fun e h=>?_
 simp only [seval,EMT,List.append_eq,List.cons_append,List.nil_append,hb71]
 refine SpecS.by (strings_HasPrefix_spec hy72) (by simp only [seval,FMT,List.append_eq,List.cons_append,List.nil_append,hb71]) ?_
 simp only [seval,EMT,List.append_eq,List.cons_append,List.nil_append,hb71]
 cases h
 simp only [seval,FMT,List.append_eq,List.cons_append,List.nil_append,hb71]
 refine .region fun e h=>?_
 simp only [seval,EMT,List.append_eq,List.cons_append,List.nil_append,hb71]
 cases h
 simp only [seval,FMT,List.append_eq,List.cons_append,List.nil_append,hb71]
 intro v6
 refine Mir.toK (.cond rfl (fun hb73=>?_) (fun hb73=>?_))
 refine .seqK (.bind fun s5 q74=>?_)
 replace q74 := cutT_ok q74
 simp only [xLC,xLN,Nat.zero_add,nA] at q74
 refine .region fun e h=>?_
 simp only [seval,EMT,und_9,q74,Nat.le_refl,and_true,true_and,dm,tm,List.append_eq,List.cons_append,List.nil_append]
 refine mU e (.ret fun e h=>?_) h
 cases h
 simp only [seval,FMT,List.append_eq,List.cons_append,List.nil_append,Tryz.results72]
 refine .skip fun e h=>?_
 cases h
 simp only [seval,FMT,List.append_eq,List.cons_append,List.nil_append,Tryz.results72]
 refine .skip fun e h=>?_
 cases h
 simp only [seval,FMT,List.append_eq,List.cons_append,List.nil_append,Tryz.results72]
 intro v7
 refine Mir.toK (.sR fun e h=>?_)
 simp only [seval,EMT,List.append_eq,List.cons_append,List.nil_append]
 refine mU e (.seqK (.sR fun e h=>?_)) h
 simp only [seval,EMT,List.append_eq,List.cons_append,List.nil_append]
 refine mU e (.cond rfl (fun hb75=>?_) (fun hb75=>?_)) h
 refine .seqK (.guard fun q76=>?_)
 replace q76 := ne_of q76
 refine .region fun e h=>?_
 simp only [seval,EMT,und_9,q76,List.append_eq,List.cons_append,List.nil_append]
 refine mU e (.sR fun e h=>?_) h
 simp only [seval,EMT,List.append_eq,List.cons_append,List.nil_append]
 refine mU e (.cond rfl (fun hb77=>?_) (fun hb77=>?_)) h
 exact Mir.no
 exact Mir.no
 exact Mir.no
def dc_FromMillimetres (a0 : (List UInt8)) : Option (Int × Int) := bindO (dc_digits a0) fun (y1 : (List UInt8) × Int × Bool)=>if (!y1.2.2 || (decide (y1.2.1 > 3))) = true then some (0,2) else bindO (strings_Repeat [48] (IntKind.i64.wrap (3 - y1.2.1))) fun (y2 : (List UInt8))=>guardO (okStr y1.1 y2) ( bindO (strconv_ParseIntE (y1.1 ++ y2) 10 64) fun (y3 : Int × Bool)=>if (!y3.2 || ((decide (y3.1 > 10000000)) || (decide (y3.1 < (-10000000))))) = true then some (0,11) else some (y3.1,0))
theorem dc_FromMillimetres_spec {a0 : (List UInt8)} {y : Int × Int} (h : dc_FromMillimetres a0 = some y) : Spec gP 51 [.d (.str a0)] (.tuple [.d (.int .i64 y.1),.d (.int .i64 y.2)]) := by
 refine spec_mir Tryz.func51 rfl (by kernel_rfl) (by kernel_rfl) (fun y : Int × Int=>.tuple [.d (.int .i64 y.1),.d (.int .i64 y.2)]) ?_ h
 unfold dc_FromMillimetres
 simp only [List.replicate,List.length,nS,nA,Tryz.ntmps51,SV]
 refine .sR fun e h=>?_
 simp only [seval,EMT]
 refine mU e (.seqK (.bind fun y1 hy1=>.region fun e h=>?_)) h
 simp only [seval,EMT]
 refine SpecS.by (dc_digits_spec hy1) (by simp only [seval,FMT]) ?_
 simp only [seval,EMT]
 refine mU e (.seqK (.seqK (.joinV ([U,U,U,U,.d (.str y1.1),.d (.int .i64 y1.2.1),U,U,U,U,U,U,U,U,U,U,U,U,U,U,.d (.bool (!y1.2.2 || (decide (y1.2.1 > 3))))] ++ us 20) ⟨[],[]⟩ rfl ?_ ?_))) h
 refine SWs.region ?_
 rcases Bool.eq_false_or_eq_true (y1.2.2) with hb2 | hb2
 simp only [seval,EMT,SL,PB,hb2]
 simp only [seval,EMT,SL,PB,hb2]
 refine Mir.toK (.cond rfl (fun hb4=>?_) (fun hb4=>?_))
 refine .sR fun e h=>?_
 simp only [seval,EMT]
 refine mU e (.ret fun e h=>?_) h
 cases h
 simp only [seval,FMT,Tryz.results51]
 refine .skip (Mir.toK (.seqK (.bind fun y2 hy5=>.guard fun q6=>?_)))
 replace q6 := okStr_ok q6
 refine .bind fun y3 hy7=>.region fun e h=>?_
 simp only [seval,EMT]
 refine SpecS.by (strings_Repeat_spec hy5) (by simp only [seval,FMT]) ?_
 simp only [seval,EMT,q6]
 refine SpecE.by (strconv_ParseIntE_spec hy7) rfl (fun t1 p1=>?_)
 simp only [seval,EMT]
 refine mU e (.seqK (.seqK (.joinV [U,U,U,U,U,U,U,.d (.int .i64 y3.1),U,U,U,U,U,U,U,U,U,U,U,U,U,U,U,U,U,U,U,U,U,U,U,U,U,U,U,U,U,U,U,.d (.bool (!y3.2 || ((decide (y3.1 > 10000000)) || (decide (y3.1 < (-10000000)))))),U] ⟨[],[]⟩ rfl ?_ ?_))) h
 refine SWs.region ?_
 rcases Bool.eq_false_or_eq_true (y3.2) with hb8 | hb8
 rcases Bool.eq_false_or_eq_true (decide (y3.1 > 10000000)) with hb9 | hb9
 simp only [seval,EMT,SL,PB,bx_ne,(nr (by kernel_rfl) : ifaceT Tryz.prog 59 = true),hb8,hb9]
 simp only [seval,EMT,SL,PB,bx_ne,(nr (by kernel_rfl) : ifaceT Tryz.prog 59 = true),hb8,hb9]
 simp only [seval,EMT,SL,PB,bx_ne,(nr (by kernel_rfl) : ifaceT Tryz.prog 59 = true),hb8]
 refine Mir.toK (.cond rfl (fun hb11=>?_) (fun hb11=>?_))
 refine .sR fun e h=>?_
 simp only [seval,EMT]
 refine mU e (.ret fun e h=>?_) h
 cases h
 simp only [seval,FMT,Tryz.results51]
 refine .skip (Mir.toK (.sR fun e h=>?_))
 simp only [seval,EMT]
 refine mU e (.ret fun e h=>?_) h
 cases h
 simp only [seval,FMT,Tryz.results51]
def dc_Millimetres (a0 : Int) : Option (List UInt8) := bindO (if (decide (a0 < 0)) = true then some ([45],IntKind.u64.wrap (0 - (IntKind.u64.wrap a0))) else some ([],IntKind.u64.wrap a0)) fun (v1 : (List UInt8) × Int)=>bindO (strconv_FormatUint (IntKind.u64.wrap (Int.tdiv v1.2 1000)) 10) fun (y1 : (List UInt8))=>guardO (okStr v1.1 y1) ( bindO (if ((Int.tmod v1.2 1000) != 0) = true then bindO (strconv_FormatUint (IntKind.u64.wrap (1000 + (Int.tmod v1.2 1000))) 10) fun (y2 : (List UInt8))=>bindO (cutF y2 1) fun (s1 : (List UInt8))=>bindO (strings_TrimRight s1 [48]) fun (y3 : (List UInt8))=>guardO (okStr [46] y3) ( guardO (okStr (v1.1 ++ y1) ([46] ++ y3)) ( some ((v1.1 ++ y1) ++ ([46] ++ y3)))) else some (v1.1 ++ y1)) fun (v2 : (List UInt8))=>some v2)
theorem dc_Millimetres_spec {a0 : Int} {y : (List UInt8)} (h : dc_Millimetres a0 = some y) : Spec gP 58 [.d (.int .i64 a0)] (.d (.str y)) := by
 refine spec_mir Tryz.func58 rfl (by kernel_rfl) (by kernel_rfl) (fun y : (List UInt8)=>.d (.str y)) ?_ h
 unfold dc_Millimetres
 simp only [List.replicate,List.length,nS,nA,Tryz.ntmps58,SV]
 refine .sR fun e h=>?_
 simp only [seval,EMT]
 refine mU e (.sR fun e h=>?_) h
 simp only [seval,EMT,und_2,und_104]
 refine mU e (.seqK (.sR fun e h=>?_)) h
 simp only [seval,EMT]
 refine mU e (Mir.joinO (fun v1 : (List UInt8) × Int=>([U,U,U,.d (.str v1.1),.d (.int .u64 v1.2)] ++ us 26)) (fun v1=>⟨[],[]⟩) (fun _=>rfl) ?_ ?_) h
 refine .cond rfl (fun hb2=>?_) (fun hb2=>?_)
 refine .region fun e h=>?_
 simp only [seval,EMT,und_2,und_104]
 cases h
 simp only [seval,FMT,Tryz.results58]
 refine .skip fun e h=>?_
 cases h
 simp only [seval,FMT,Tryz.results58]
 intro v1
 refine Mir.toK (.seqK (.bind fun y1 hy3=>.guard fun q4=>?_))
 replace q4 := okStr_ok q4
 refine .region fun e h=>?_
 simp only [seval,EMT]
 refine SpecS.by (strconv_FormatUint_spec hy3) (by simp only [seval,FMT]) ?_
 simp only [seval,EMT,q4]
 refine mU e (.seqK (.sR fun e h=>?_)) h
 simp only [seval,EMT]
 refine mU e (Mir.joinO (fun v2 : (List UInt8)=>([U,U,U,U,U,.d (.str v2)] ++ us 25)) (fun v2=>⟨[],[]⟩) (fun _=>rfl) ?_ ?_) h
 refine .cond rfl (fun hb11=>?_) (fun hb11=>?_)
 refine .bind fun y2 hy12=>.bind fun s1 q13=>?_
 replace q13 := cutF_ok q13
 simp only [Int.reduceToNat,Int.reduceLT,Nat.sub_zero,dp0] at q13
 refine .bind fun y3 hy14=>.guard fun q15=>?_
 replace q15 := okStr_ok q15
 try simp only [lm,xNA,xCA,xAN,xLC,xLN,xAC,xAL,nA,Nat.zero_add] at q15
 refine .guard fun q16=>?_
 replace q16 := okStr_ok q16
 try simp only [lm,xNA,xCA,xAN,xLC,xLN,xAC,xAL,nA,Nat.zero_add] at q16
 refine .region fun e h=>?_
 simp only [seval,EMT]
 refine SpecS.by (strconv_FormatUint_spec hy12) (by simp only [seval,FMT]) ?_
 simp only [seval,EMT,und_9,q13,Nat.le_refl,and_true,true_and,dm,tm]
 refine SpecS.by (strings_TrimRight_spec hy14) (by simp only [seval,FMT]) ?_
 simp only [seval,EMT,q15,q16]
 cases h
 simp only [seval,FMT,Tryz.results58]
 refine .skip fun e h=>?_
 cases h
 simp only [seval,FMT,Tryz.results58]
 intro v2
 refine Mir.toK (.sR fun e h=>?_)
 simp only [seval,EMT]
 refine mU e (.ret fun e h=>?_) h
 cases h
 simp only [seval,FMT,Tryz.results58]
def r06_FromMillimetres (a0 : (List UInt8)) : Option (Int × Int) := bindO (r06_Places a0) fun (y1 : Int)=>if ((decide (y1 < 0)) || (decide (y1 > 3))) = true then some (0,2) else bindO (r06_Parse a0) fun (y2 : ApiRat × Int)=>bindO (r06_Power 3) fun (y3 : ApiRat)=>bindO (r02_Mul y2.1 y3) fun (y4 : ApiRat)=>bindO (r02_Floor y4) fun (y5 : ApiInt)=>bindO (r06_within y5) fun (y6 : Int × Bool)=>if (!y6.2) = true then some (0,11) else some (y6.1,0)
theorem r06_FromMillimetres_spec {a0 : (List UInt8)} {y : Int × Int} (h : r06_FromMillimetres a0 = some y) : Spec gP 54 [.d (.str a0)] (.tuple [.d (.int .i64 y.1),.d (.int .i64 y.2)]) := by
 refine spec_mir Tryz.func54 rfl (by kernel_rfl) (by kernel_rfl) (fun y : Int × Int=>.tuple [.d (.int .i64 y.1),.d (.int .i64 y.2)]) ?_ h
 unfold r06_FromMillimetres
 simp only [List.replicate,List.length,nS,nA,Tryz.ntmps54,SV]
 refine .sR fun e h=>?_
 simp only [seval,EMT]
 refine mU e (.seqK (.bind fun y1 hy1=>.region fun e h=>?_)) h
 simp only [seval,EMT]
 refine SpecS.by (r06_Places_spec hy1) (by simp only [seval,FMT]) ?_
 simp only [seval,EMT]
 refine mU e (.seqK (.seqK (.joinV ([.d (.str a0),U,U,U,U,U,U,U,U,U,U,U,U,U,U,U,.d (.bool ((decide (y1 < 0)) || (decide (y1 > 3))))] ++ us 16) ⟨[],[]⟩ rfl ?_ ?_))) h
 refine SWs.region ?_
 rcases Bool.eq_false_or_eq_true (decide (y1 < 0)) with hb2 | hb2
 simp only [seval,EMT,SL,PB,hb2]
 simp only [seval,EMT,SL,PB,hb2]
 refine Mir.toK (.cond rfl (fun hb4=>?_) (fun hb4=>?_))
 refine .sR fun e h=>?_
 simp only [seval,EMT]
 refine mU e (.ret fun e h=>?_) h
 cases h
 simp only [seval,FMT,Tryz.results54]
 refine .skip (Mir.toK (.seqK (.bind fun y2 hy5=>.region fun e h=>?_)))
 simp only [seval,EMT]
 refine SpecS.by (r06_Parse_spec hy5) (by simp only [seval,FMT]) ?_
 simp only [seval,EMT,zero_94,sz_94]
 refine mU e (.seqK (.bind fun y3 hy6=>.bind fun y4 hy7=>.bind fun y5 hy8=>.bind fun y6 hy9=>.regionD [] (by kernel_rfl) fun e h=>?_)) h
 simp only [seval,EMT,SB,ag_94,sz_94]
 refine Spec.by (r06_Power_spec hy6) (by simp only [seval,FMT]) ?_
 simp only [seval,EMT,SB]
 refine Spec.by (r02_Mul_spec hy7) (by simp only [seval,FMT]) ?_
 simp only [seval,EMT,SB]
 refine Spec.by (r02_Floor_spec hy8) (by simp only [seval,FMT]) ?_
 simp only [seval,EMT,SB]
 refine Spec.by (r06_within_spec hy9) (by simp only [seval,FMT]) ?_
 simp only [seval,EMT,SB]
 refine mU e (.seqK (.sR fun e h=>?_)) h
 simp only [seval,EMT]
 refine mU e (.cond rfl (fun hb11=>?_) (fun hb11=>?_)) h
 refine .sR fun e h=>?_
 simp only [seval,EMT]
 refine mU e (.ret fun e h=>?_) h
 cases h
 simp only [seval,FMT,Tryz.results54]
 refine .skip (Mir.toK (.sR fun e h=>?_))
 simp only [seval,EMT]
 refine mU e (.ret fun e h=>?_) h
 cases h
 simp only [seval,FMT,Tryz.results54]
end Go.Proofs.YthljcnchaopncaaGreatDoor
