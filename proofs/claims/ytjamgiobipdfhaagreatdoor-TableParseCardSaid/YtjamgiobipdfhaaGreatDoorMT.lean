import Derived.Test.YtjamgiobipdfhaaGreatDoorGx
import Derived.Test.YtjamgiobipdfhaaGreatDoorTy
import Derived.Test.YtjamgiobipdfhaaGreatDoorLbe
import Derived.Test.YtjamgiobipdfhaaGreatDoorSzz
import Derived.Test.YtjamgiobipdfhaaGreatDoorMI
import Derived.Test.YtjamgiobipdfhaaGreatDoorMQ
import Derived.Test.YtjamgiobipdfhaaGreatDoorMB
open Int renaming tdiv → zC,tmod → zG,toNat_natCast → zJ,reduceToNat → zL,reduceLT → zN,toNat → zR
open List renaming cons_append → zD,nil_append → zE,append_eq → zF,replicate → zI,length → zK,map → zM
open Bool renaming eq_false_or_eq_true → zH
open Nat renaming sub_zero → zO,le_refl → zP,zero_add → zQ
open Go.IntKind renaming i64 → zS,u32 → zT,i32 → zU,u64 → zV
namespace Go.Proofs.YtjamgiobipdfhaaGreatDoor
open Go.RowKit
open Nat renaming reduceAdd → nA,reduceSub → nS,reduceMul → nM,reduceEqDiff → nE,reduceLeDiff → nL,reduceLT → nT,reduceBEq → nB
open Int renaming reduceLT → iT,reduceToNat → iN,reduceEq → iE
set_option linter.unusedVariables false
set_option linter.unusedSimpArgs false
set_option maxRecDepth 100000
set_option maxHeartbeats 8000000
theorem EMT : type_of% (@SE) := @SE
theorem FMT : type_of% (@SF) := @SF
def r06_Places (a0 : (List UInt8)) : Option Int := if (decide ((a0.length : Int) > 65536)) = true then some (-1) else bindO (if (decide ((a0.length : Int) > 0)) = true then bindO (gt a0 0) λ(c1 : UInt8)=>some ((c1.toNat : Int) == 45) else some false) λ(v1 : Bool)=>bindO (if v1 = true then bindO (cutF a0 1) λ(s1 : (List UInt8))=>some s1 else some a0) λ(v2 : (List UInt8))=>bindX (guardO (okIdx v2) ( rangeX (λ(i1 : Nat) (c2 : UInt8) (v3 : Int × Bool)=>bindX (if (((c2.toNat : Int) == 46) && (v3.1 == (v2.length : Int))) = true then some (.go ((i1 : Int),v3.2)) else if ((decide ((c2.toNat : Int) < 48)) || (decide ((c2.toNat : Int) > 57))) = true then some (.ret (.ret (.ret (-1)))) else some (.go (v3.1,v3.2 || ((c2.toNat : Int) != 48)))) λ(v4 : Int × Bool)=>some (.go (v4.1,v4.2))) (λ(v3 : Int × Bool)=>some (.go (v3.1,v3.2))) v2 0 ((v2.length : Int),false))) λ(v5 : Int × Bool)=>bindO (if (v5.1 == 0) = true then some true else if (decide (v5.1 > 1)) = true then bindO (gt v2 0) λ(c3 : UInt8)=>if ((c3.toNat : Int) == 48) = true then some true else if (decide ((a0.length : Int) > (v2.length : Int))) = true then some (!v5.2) else some false else if (decide ((a0.length : Int) > (v2.length : Int))) = true then some (!v5.2) else some false) λ(v6 : Bool)=>if v6 = true then some (-1) else if (v5.1 == (v2.length : Int)) = true then some 0 else if ((decide ((zS.wrap ((zS.wrap ((v2.length : Int) - v5.1)) - 1)) < 1)) || (decide ((zS.wrap ((zS.wrap ((v2.length : Int) - v5.1)) - 1)) > 30))) = true then some (-1) else some (zS.wrap ((zS.wrap ((v2.length : Int) - v5.1)) - 1))
theorem r06_Places_spec {a0 : (List UInt8)} {y : Int} (h : r06_Places a0 = some y) : Spec gP 82 [.d (.str a0)] (.d (.int .i64 y)) := by
 refine spec_mir Tryz.func82 rfl (by kernel_rfl) (by kernel_rfl) (λy : Int=>.d (.int .i64 y)) ?_ h
 unfold r06_Places
 simp only [zI,zK,nS,nA,Tryz.ntmps82,SV]
 refine .sR λe h=>?_
 simp only [seval,EMT]
 refine mU e (.seqK (.sR λe h=>?_)) h
 simp only [seval,EMT,und_9]
 refine mU e (.cond rfl (λhb2=>?_) (λhb2=>?_)) h
 refine .sR λe h=>?_
 simp only [seval,EMT]
 refine mU e (.ret λe h=>?_) h
 cases h
 simp only [seval,FMT,Tryz.results82]
 refine .skip (Mir.toK (.sR λe h=>?_))
 simp only [seval,EMT]
 refine mU e (.seqK (.seqK (Mir.joinO (λv1 : Bool=>([.d (.str a0),U,U,.d (.str a0),U,U,U,U,U,U,U,U,U,U,U,U,U,U,U,.d (.bool v1)] ++ us 76)) (λv1=>⟨[],[]⟩) (λ_=>rfl) ?_ ?_))) h
 refine .ite (λhb3=>?_) (λhb3=>?_)
 refine .bind λc1 q4=>?_
 replace q4 := gt_ok q4
 simp only [zL,zN,zO,dp0] at q4
 refine .region λe h=>?_
 simp only [seval,EMT,und_9,q4,hb3]
 cases h
 simp only [seval,FMT,hb3]
 refine .region λe h=>?_
 simp only [seval,EMT,und_9,hb3]
 cases h
 simp only [seval,FMT,hb3]
 intro v1
 refine Mir.toK (Mir.joinO (λv2 : (List UInt8)=>([.d (.str a0),U,U,.d (.str v2)] ++ us 92)) (λv2=>⟨[],[]⟩) (λ_=>rfl) ?_ ?_)
 refine .cond rfl (λhb7=>?_) (λhb7=>?_)
 refine .bind λs1 q8=>?_
 replace q8 := cutF_ok q8
 simp only [zL,zN,zO,dp0] at q8
 refine .region λe h=>?_
 simp only [seval,EMT,und_9,q8,zP,and_true,true_and,dm,tm]
 cases h
 simp only [seval,FMT,Tryz.results82]
 refine .skip λe h=>?_
 cases h
 simp only [seval,FMT,Tryz.results82]
 intro v2
 refine Mir.toK (.sR λe h=>?_)
 simp only [seval,EMT,und_9]
 refine mU e (.sR λe h=>?_) h
 simp only [seval,EMT]
 refine mU e (.seqK (.sR λe h=>?_)) h
 simp only [seval,EMT]
 refine mU e (Mir.join (λv5 : Int × Bool=>([.d (.str a0),U,U,.d (.str v2),.d (.int .i64 v5.1),.d (.bool v5.2)] ++ us 90)) (λv5=>⟨[],[]⟩) (λ_=>rfl) ?_ ?_) h
 refine .block (.guard λq1=>Mir.range (λ(i1 : Nat) (v3 : Int × Bool)=>([.d (.str a0),U,U,.d (.str v2),.d (.int .i64 v3.1),.d (.bool v3.2),.d (.int .i64 (i1 : Int))] ++ us 89)) (λi1 v3=>⟨[],[]⟩) q1 (λ_ _=>rfl) (by simp only [seval,FMT,zNI]) (by simp only [seval,FMT,zNI]) ?_ ?_)
 intro i1 c2 v3 q2
 refine .seqK (.sR λe h=>?_)
 simp only [seval,EMT,und_9,q2]
 refine mU e (.condT rfl (.skip (Mir.toK (.seqK (Mir.join (λv4 : Int × Bool=>([.d (.str a0),U,U,.d (.str v2),.d (.int .i64 v4.1),.d (.bool v4.2),.d (.int .i64 (i1 : Int))] ++ us 89)) (λv4=>⟨[],[]⟩) (λ_=>rfl) ?_ ?_))))) h
 refine .block (.seqK (.seqK (.joinV ([.d (.str a0),U,U,.d (.str v2),.d (.int .i64 v3.1),.d (.bool v3.2),.d (.int .i64 (i1 : Int)),U,U,U,U,U,U,U,U,U,U,U,U,U,U,U,U,U,U,U,U,U,U,U,U,U,U,U,U,U,U,U,U,.d (.bool (((c2.toNat : Int) == 46) && (v3.1 == (v2.length : Int))))] ++ us 56) ⟨[],[]⟩ rfl ?_ ?_)))
 refine SWs.region ?_
 rcases zH ((c2.toNat : Int) == 46) with h1 | h1
 simp only [seval,EMT,SL,PB,und_9,zJ,q2,h1]
 simp only [seval,EMT,SL,PB,und_9,zJ,q2,h1]
 refine Mir.toK (.cond rfl (λh2=>?_) (λh2=>?_))
 refine .sR λe h=>?_
 simp only [seval,EMT]
 refine mU e (.exit λe h=>?_) h
 cases h
 simp only [seval,FMT,Tryz.results82]
 refine .skip (Mir.toK (.seqK (.seqK (.joinV ([.d (.str a0),U,U,.d (.str v2),.d (.int .i64 v3.1),.d (.bool v3.2),.d (.int .i64 (i1 : Int)),U,U,U,U,U,U,U,U,U,U,U,U,U,U,U,U,U,U,U,U,U,U,U,U,U,U,U,U,U,U,U,U,U,U,U,U,U,U,U,U,U,U,U,.d (.bool ((decide ((c2.toNat : Int) < 48)) || (decide ((c2.toNat : Int) > 57))))] ++ us 45) ⟨[],[]⟩ rfl ?_ ?_))))
 refine SWs.region ?_
 rcases zH (decide ((c2.toNat : Int) < 48)) with h3 | h3
 simp only [seval,EMT,SL,PB,und_9,zJ,q2,h3]
 simp only [seval,EMT,SL,PB,und_9,zJ,q2,h3]
 refine Mir.toK (.cond rfl (λh4=>?_) (λh4=>?_))
 refine .sR λe h=>?_
 simp only [seval,EMT]
 refine mU e (.ret λe h=>?_) h
 cases h
 simp only [seval,FMT,Tryz.results82]
 refine .skip (Mir.toK (.joinV ([.d (.str a0),U,U,.d (.str v2),.d (.int .i64 v3.1),.d (.bool (v3.2 || ((c2.toNat : Int) != 48))),.d (.int .i64 (i1 : Int))] ++ us 89) ⟨[],[]⟩ rfl ?_ ?_))
 refine SWs.region ?_
 rcases zH (v3.2) with h5 | h5
 simp only [seval,EMT,SL,PB,h5]
 simp only [seval,EMT,SL,PB,und_9,zJ,q2,h5]
 intro e h
 cases h
 simp only [seval,FMT,Tryz.results82]
 intro v4
 refine Mir.toK (.region λe h=>?_)
 simp only [seval,EMT]
 cases h
 simp only [seval,FMT,Tryz.results82,q2]
 intro v3 q3
 refine .seqK (.sR λe h=>?_)
 simp only [seval,EMT,und_9,q3]
 refine mU e (.condF rfl (.exit λe h=>?_)) h
 cases h
 simp only [seval,FMT,Tryz.results82]
 intro v5
 refine Mir.toK (.seqK (.seqK (Mir.joinO (λv6 : Bool=>([U,U,U,.d (.str v2),.d (.int .i64 v5.1),U,U,U,U,U,U,U,U,U,U,U,U,U,U,U,U,U,U,U,U,U,U,U,U,U,U,U,U,U,U,U,U,U,U,U,U,U,U,U,U,U,U,U,U,U,U,U,U,U,U,U,U,U,U,U,U,U,U,U,U,U,U,U,U,U,U,U,U,U,U,U,U,U,U,.d (.bool v6)] ++ us 16)) (λv6=>⟨[],[]⟩) (λ_=>rfl) ?_ ?_)))
 refine .ite (λh6=>?_) (λh6=>?_)
 refine .region λe h=>?_
 simp only [seval,EMT,h6]
 cases h
 simp only [seval,FMT,h6]
 refine .ite (λh7=>?_) (λh7=>?_)
 refine .bind λc3 q5=>?_
 replace q5 := gt_ok q5
 simp only [zL,zN,zO,dp0] at q5
 refine .ite (λh8=>?_) (λh8=>?_)
 refine .region λe h=>?_
 simp only [seval,EMT,und_9,q5,h6,h7,h8]
 cases h
 simp only [seval,FMT,h6,h7,h8]
 refine .ite (λh9=>?_) (λh9=>?_)
 refine .region λe h=>?_
 simp only [seval,EMT,und_9,q5,h6,h7,h8,h9]
 cases h
 simp only [seval,FMT,h6,h7,h8,h9]
 refine .region λe h=>?_
 simp only [seval,EMT,und_9,q5,h6,h7,h8,h9]
 cases h
 simp only [seval,FMT,h6,h7,h8,h9]
 refine .ite (λh10=>?_) (λh10=>?_)
 refine .region λe h=>?_
 simp only [seval,EMT,und_9,h6,h7,h10]
 cases h
 simp only [seval,FMT,h6,h7,h10]
 refine .region λe h=>?_
 simp only [seval,EMT,und_9,h6,h7,h10]
 cases h
 simp only [seval,FMT,h6,h7,h10]
 intro v6
 refine Mir.toK (.cond rfl (λh11=>?_) (λh11=>?_))
 refine .sR λe h=>?_
 simp only [seval,EMT]
 refine mU e (.ret λe h=>?_) h
 cases h
 simp only [seval,FMT,Tryz.results82]
 refine .skip (Mir.toK (.seqK (.sR λe h=>?_)))
 simp only [seval,EMT,und_9]
 refine mU e (.cond rfl (λh12=>?_) (λh12=>?_)) h
 refine .sR λe h=>?_
 simp only [seval,EMT]
 refine mU e (.ret λe h=>?_) h
 cases h
 simp only [seval,FMT,Tryz.results82]
 refine .skip (Mir.toK (.sR λe h=>?_))
 simp only [seval,EMT,und_9]
 refine mU e (.seqK (.seqK (.joinV [U,U,U,U,U,U,U,.d (.int .i64 (zS.wrap ((zS.wrap ((v2.length : Int) - v5.1)) - 1))),U,U,U,U,U,U,U,U,U,U,U,U,U,U,U,U,U,U,U,U,U,U,U,U,U,U,U,U,U,U,U,U,U,U,U,U,U,U,U,U,U,U,U,U,U,U,U,U,U,U,U,U,U,U,U,U,U,U,U,U,U,U,U,U,U,U,U,U,U,U,U,U,U,U,U,U,U,U,U,U,U,U,U,U,U,U,.d (.bool ((decide ((zS.wrap ((zS.wrap ((v2.length : Int) - v5.1)) - 1)) < 1)) || (decide ((zS.wrap ((zS.wrap ((v2.length : Int) - v5.1)) - 1)) > 30)))),U] ⟨[],[]⟩ rfl ?_ ?_))) h
 refine SWs.region ?_
 rcases zH (decide ((zS.wrap ((zS.wrap ((v2.length : Int) - v5.1)) - 1)) < 1)) with h13 | h13
 simp only [seval,EMT,SL,PB,h13]
 simp only [seval,EMT,SL,PB,h13]
 refine Mir.toK (.cond rfl (λh14=>?_) (λh14=>?_))
 refine .sR λe h=>?_
 simp only [seval,EMT]
 refine mU e (.ret λe h=>?_) h
 cases h
 simp only [seval,FMT,Tryz.results82]
 refine .skip (Mir.toK (.sR λe h=>?_))
 simp only [seval,EMT]
 refine mU e (.ret λe h=>?_) h
 cases h
 simp only [seval,FMT,Tryz.results82]
def r01_Parse (a0 : (List UInt8)) : Option (ApiInt × Int) := bindO (if (decide ((a0.length : Int) > 0)) = true then bindO (gt a0 0) λ(c1 : UInt8)=>some ((c1.toNat : Int) == 45) else some false) λ(v1 : Bool)=>bindO (if v1 = true then bindO (cutF a0 1) λ(s1 : (List UInt8))=>some s1 else some a0) λ(v2 : (List UInt8))=>bindO (if (v2 == []) = true then some true else if (decide ((a0.length : Int) > 65536)) = true then some true else bindO (gt v2 0) λ(c2 : UInt8)=>if ((c2.toNat : Int) == 48) = true then some (!(a0 == [48])) else some false) λ(v3 : Bool)=>if v3 = true then some (ApiInt.mk false [],2) else guardO (decide ((0 : Int) ≤ (zS.wrap ((zS.wrap (zC (v2.length : Int) 9)) + 1)))) ( guardO (okLen (zR (zS.wrap ((zS.wrap (zC (v2.length : Int) 9)) + 1)))) ( bindX (guardO (okIdx v2) ( rangeX (λ(i1 : Nat) (c3 : UInt8) (v4 : (List Int))=>bindX (if ((decide ((c3.toNat : Int) < 48)) || (decide ((c3.toNat : Int) > 57))) = true then some (.ret (.ret (.ret (ApiInt.mk false [],2)))) else bindO (loopX (λ(v5 : Int × Int)=>if (decide (v5.2 < (zG (zS.wrap ((zS.wrap ((v2.length : Int) - 1)) - (i1 : Int))) 9))) = true then some (.go (zT.wrap (v5.1 * 10),zS.wrap (v5.2 + 1))) else some (.ret v5.1)) fuel (1,0)) λ(v6 : Int)=>bindO (gt v4 (zS.wrap (zC (zS.wrap ((zS.wrap ((v2.length : Int) - 1)) - (i1 : Int))) 9))) λ(e1 : Int)=>bindO (gt v4 (zS.wrap (zC (zS.wrap ((zS.wrap ((v2.length : Int) - 1)) - (i1 : Int))) 9))) λ(e2 : Int)=>some (.go (v4.set (zR (zS.wrap (zC (zS.wrap ((zS.wrap ((v2.length : Int) - 1)) - (i1 : Int))) 9))) (zT.wrap (e1 + (zT.wrap ((zT.wrap (IntKind.u8.wrap ((c3.toNat : Int) - 48))) * v6))))))) λ(v7 : (List Int))=>some (.go v7)) (λ(v4 : (List Int))=>some (.go v4)) v2 0 (zI (zR (zS.wrap ((zS.wrap (zC (v2.length : Int) 9)) + 1))) (0 : Int)))) λ(v8 : (List Int))=>bindO (gt a0 0) λ(c4 : UInt8)=>bindO (r01_signed ((c4.toNat : Int) == 45) v8) λ(y1 : ApiInt)=>some (y1,0)))
theorem r01_Parse_spec {a0 : (List UInt8)} {y : ApiInt × Int} (h : r01_Parse a0 = some y) : Spec gP 116 [.d (.str a0)] (.tuple [.agg [.d (.bool y.1.Neg),.d (.list (zM (eInt .u32) y.1.Limbs))],.d (.int .i64 y.2)]) := by
 refine spec_mir Tryz.func116 rfl (by kernel_rfl) (by kernel_rfl) (λy : ApiInt × Int=>.tuple [.agg [.d (.bool y.1.Neg),.d (.list (zM (eInt .u32) y.1.Limbs))],.d (.int .i64 y.2)]) ?_ h
 unfold r01_Parse
 simp only [zI,zK,nS,nA,Tryz.ntmps116,SV]
 refine .sR λe h=>?_
 simp only [seval,EMT,zero_133,eInt,rmap_set,spD]
 refine mU e (.sR λe h=>?_) h
 simp only [seval,EMT,eInt,rmap_set,spD]
 refine mU e (.seqK (.seqK (Mir.joinO (λv1 : Bool=>([.d (.str a0),U,.ptr 0 0,U,.d (.str a0),U,U,U,U,U,U,U,U,U,U,U,U,U,.d (.bool v1)] ++ us 76)) (λv1=>⟨[[.d (.bool false),.nil]],[]⟩) (λ_=>rfl) ?_ ?_))) h
 refine .ite (λhb1=>?_) (λhb1=>?_)
 refine .bind λc1 q2=>?_
 replace q2 := gt_ok q2
 simp only [zL,zN,zO,dp0] at q2
 refine .region λe h=>?_
 simp only [seval,EMT,und_9,q2,hb1]
 cases h
 simp only [seval,FMT,hb1]
 refine .region λe h=>?_
 simp only [seval,EMT,und_9,hb1]
 cases h
 simp only [seval,FMT,hb1]
 intro v1
 refine Mir.toK (Mir.joinO (λv2 : (List UInt8)=>([.d (.str a0),U,.ptr 0 0,U,.d (.str v2)] ++ us 90)) (λv2=>⟨[[.d (.bool false),.nil]],[]⟩) (λ_=>rfl) ?_ ?_)
 refine .cond rfl (λhb5=>?_) (λhb5=>?_)
 refine .bind λs1 q6=>?_
 replace q6 := cutF_ok q6
 simp only [zL,zN,zO,dp0] at q6
 refine .region λe h=>?_
 simp only [seval,EMT,und_9,q6,zP,and_true,true_and,dm,tm]
 cases h
 simp only [seval,FMT,Tryz.results116,ag_133,sz_133]
 refine .skip λe h=>?_
 cases h
 simp only [seval,FMT,Tryz.results116,ag_133,sz_133]
 intro v2
 refine Mir.toK (.seqK (.seqK (Mir.joinO (λv3 : Bool=>([.d (.str a0),U,.ptr 0 0,U,.d (.str v2),U,U,U,U,U,U,U,U,U,U,U,U,U,U,U,U,U,U,U,U,U,U,U,U,U,U,U,U,U,U,U,.d (.bool v3)] ++ us 58)) (λv3=>⟨[[.d (.bool false),.nil]],[]⟩) (λ_=>rfl) ?_ ?_)))
 refine .ite (λhb7=>?_) (λhb7=>?_)
 refine .region λe h=>?_
 simp only [seval,EMT,hb7]
 cases h
 simp only [seval,FMT,hb7]
 refine .ite (λhb8=>?_) (λhb8=>?_)
 refine .region λe h=>?_
 simp only [seval,EMT,und_9,hb7,hb8]
 cases h
 simp only [seval,FMT,hb7,hb8]
 refine .bind λc2 q9=>?_
 replace q9 := gt_ok q9
 simp only [zL,zN,zO,dp0] at q9
 refine .ite (λhb10=>?_) (λhb10=>?_)
 refine .region λe h=>?_
 simp only [seval,EMT,und_9,q9,hb7,hb8,hb10]
 cases h
 simp only [seval,FMT,hb7,hb8,hb10]
 refine .region λe h=>?_
 simp only [seval,EMT,und_9,q9,hb7,hb8,hb10]
 cases h
 simp only [seval,FMT,hb7,hb8,hb10]
 intro v3
 refine Mir.toK (.cond rfl (λhb12=>?_) (λhb12=>?_))
 refine .sR λe h=>?_
 simp only [seval,EMT,zero_133,pl_133,sz_133]
 refine mU e (.ret λe h=>?_) h
 cases h
 simp only [seval,FMT,Tryz.results116,ag_133,sz_133]
 refine .skip (Mir.toK (.seqK (.guard λq13=>.guard λq14=>.regionW λe h=>regW.alt 4 rfl ?_)))
 simp only [seval,EMT,w_none,w_eq,und_9,eInt,rmap_set,spD]
 refine alt_makeM (en := (eInt .u32)) (z := 0) rfl rfl app_131 zero_155 rfl rfl (of_decide_eq_true q13) q14 (regW.of ?_)
 simp only [seval,EMT,w_none,w_eq,eInt,rmap_set,spD]
 refine mU e (.seqK (.sR λe h=>?_)) h
 simp only [seval,EMT,eInt,rmap_set,spD]
 refine mU e (Mir.join (λv8 : (List Int)=>([.d (.str a0),U,.ptr 0 0,U,U,.gr 1 0] ++ us 89)) (λv8=>⟨[[.d (.bool false),.nil],[.rowc 155 0 (zM (eInt .u32) v8)]],[]⟩) (λ_=>rfl) ?_ ?_) h
 refine .block (.guard λq1=>Mir.range (λ(i1 : Nat) (v4 : (List Int))=>([.d (.str a0),U,.ptr 0 0,U,.d (.str v2),.gr 1 0,.d (.int .i64 (i1 : Int))] ++ us 88)) (λi1 v4=>⟨[[.d (.bool false),.nil],[.rowc 155 0 (zM (eInt .u32) v4)]],[]⟩) q1 (λ_ _=>rfl) (by simp only [seval,FMT,eInt,rmap_set,spD,zNI]) (by simp only [seval,FMT,eInt,rmap_set,spD,zNI]) ?_ ?_)
 intro i1 c3 v4 q3
 refine .seqK (.sR λe h=>?_)
 simp only [seval,EMT,und_9,q3,eInt,rmap_set,spD]
 refine mU e (.condT rfl (.skip (Mir.toK (.seqK (Mir.join (λv7 : (List Int)=>([.d (.str a0),U,.ptr 0 0,U,.d (.str v2),.gr 1 0,.d (.int .i64 (i1 : Int))] ++ us 88)) (λv7=>⟨[[.d (.bool false),.nil],[.rowc 155 0 (zM (eInt .u32) v7)]],[]⟩) (λ_=>rfl) ?_ ?_))))) h
 refine .block (.seqK (.seqK (.joinV ([.d (.str a0),U,.ptr 0 0,U,.d (.str v2),.gr 1 0,.d (.int .i64 (i1 : Int)),U,U,U,U,U,U,U,U,U,U,U,U,U,U,U,U,U,U,U,U,U,U,U,U,U,U,U,U,U,U,U,U,U,U,U,U,U,U,U,U,U,U,U,U,U,U,U,U,U,U,U,.d (.bool ((decide ((c3.toNat : Int) < 48)) || (decide ((c3.toNat : Int) > 57))))] ++ us 36) ⟨[[.d (.bool false),.nil],[.rowc 155 0 (zM (eInt .u32) v4)]],[]⟩ rfl ?_ ?_)))
 refine SWs.region ?_
 rcases zH (decide ((c3.toNat : Int) < 48)) with h1 | h1
 simp only [seval,EMT,SL,PB,und_9,zJ,q3,h1,eInt,rmap_set,spD]
 simp only [seval,EMT,SL,PB,und_9,zJ,q3,h1,eInt,rmap_set,spD]
 refine Mir.toK (.cond rfl (λh2=>?_) (λh2=>?_))
 refine .sR λe h=>?_
 simp only [seval,EMT,zero_133,pl_133,sz_133,eInt,rmap_set,spD]
 refine mU e (.ret λe h=>?_) h
 cases h
 simp only [seval,FMT,eInt,rmap_set,spD,Tryz.results116,ag_133,sz_133]
 refine .skip (Mir.toK (.sR λe h=>?_))
 simp only [seval,EMT,und_9,eInt,rmap_set,spD]
 refine mU e (.sR λe h=>?_) h
 simp only [seval,EMT,eInt,rmap_set,spD]
 refine mU e (.seqK (.sR λe h=>?_)) h
 simp only [seval,EMT,eInt,rmap_set,spD]
 refine mU e (Mir.joinO (λv6 : Int=>([.d (.str a0),U,.ptr 0 0,U,.d (.str v2),.gr 1 0,.d (.int .i64 (i1 : Int)),.d (.int .i64 (zS.wrap ((zS.wrap ((v2.length : Int) - 1)) - (i1 : Int)))),.d (.int .u32 v6)] ++ us 86)) (λv6=>⟨[[.d (.bool false),.nil],[.rowc 155 0 (zM (eInt .u32) v4)]],[]⟩) (λ_=>rfl) ?_ ?_) h
 refine .block (Mir.loop (λv5 : Int × Int=>([.d (.str a0),U,.ptr 0 0,U,.d (.str v2),.gr 1 0,.d (.int .i64 (i1 : Int)),.d (.int .i64 (zS.wrap ((zS.wrap ((v2.length : Int) - 1)) - (i1 : Int)))),.d (.int .u32 v5.1),.d (.int .i64 v5.2)] ++ us 85)) (λv5=>⟨[[.d (.bool false),.nil],[.rowc 155 0 (zM (eInt .u32) v4)]],[]⟩) (λ_=>rfl) (by simp only [seval,FMT,eInt,rmap_set,spD]) (by simp only [seval,FMT,eInt,rmap_set,spD]) λv5=>.seqK (.sR λe h=>?_))
 simp only [seval,EMT,eInt,rmap_set,spD]
 refine mU e (.cond rfl (λh3=>?_) (λh3=>?_)) h
 refine .skip (Mir.toK (.seqK (.block (.region λe h=>?_))))
 simp only [seval,EMT,eInt,rmap_set,spD]
 refine mU e (.region λe h=>?_) h
 simp only [seval,EMT,eInt,rmap_set,spD]
 cases h
 simp only [seval,FMT,eInt,rmap_set,spD,Tryz.results116,ag_133,sz_133]
 refine .exit λe h=>?_
 cases h
 simp only [seval,FMT,eInt,rmap_set,spD,Tryz.results116,ag_133,sz_133]
 intro v6
 refine Mir.toK (.bind λe1 q4=>?_)
 replace q4 := gt_ok q4
 refine .bind λe2 q5=>?_
 replace q5 := gt_ok q5
 refine Mir.regionST 17 (by kernel_rfl) λe h=>stW.alt 6 rfl (by kernel_rfl) ?_
 simp only [seval,EMT,w_none,w_eq,eInt,rmap_set,spD]
 refine st_indexR rfl rfl rfl und_131 sz_155 (row_lo q4.1) (row_hi q4.2 q4.1) (stW.alt 0 rfl (by kernel_rfl) ?_)
 simp only [seval,EMT,w_none,w_eq,und_131,sz_155,eInt,rmap_set,spD]
 refine st_loadR rfl rfl (row_at q4.2) (by simp only [↓reduceIte,nA,nL,pt_eq,ag_155,sz_155,dc_cons,dc_nil,SV,eInt] <;> rfl) (stW.alt 8 rfl (by kernel_rfl) ?_)
 simp only [seval,EMT,w_none,w_eq,ag_155,sz_155,und_9,zJ,q3,und_5,und_155,eInt,rmap_set,spD]
 refine st_indexR rfl rfl rfl und_131 sz_155 (row_lo q5.1) (row_hi q5.2 q5.1) (stW.of (by kernel_rfl) ?_)
 simp only [seval,EMT,w_none,w_eq,und_131,sz_155,eInt,rmap_set,spD]
 refine regW.alt 0 rfl ?_
 simp only [seval,EMT,w_none,w_eq,eInt,rmap_set,spD]
 refine alt_storeR rfl rfl (row_at q5.2) rfl rfl sz_155 rfl (Nat.le_of_ble_eq_true rfl) (regW.of ?_)
 simp only [seval,EMT,w_none,w_eq,sz_155,eInt,rmap_set,spD]
 cases h
 simp only [seval,FMT,eInt,rmap_set,spD,Tryz.results116,ag_133,sz_133]
 intro v7
 refine Mir.toK (.region λe h=>?_)
 simp only [seval,EMT,eInt,rmap_set,spD]
 cases h
 simp only [seval,FMT,eInt,rmap_set,spD,Tryz.results116,ag_133,sz_133,q3]
 intro v4 q7
 refine .seqK (.sR λe h=>?_)
 simp only [seval,EMT,und_9,q7,eInt,rmap_set,spD]
 refine mU e (.condF rfl (.exit λe h=>?_)) h
 cases h
 simp only [seval,FMT,eInt,rmap_set,spD,Tryz.results116,ag_133,sz_133]
 intro v8
 refine Mir.toK (.seqK (.frz 1 rfl ?_))
 simp only [seval,us_0,us_s,xCA,xNA,and_self,and_true,true_and,and_false,false_and,SZ]
 refine .bind λc4 q8=>?_
 replace q8 := gt_ok q8
 simp only [zL,zN,zO,dp0] at q8
 refine .bind λy1 h4=>.region λe h=>?_
 simp only [seval,EMT,und_9,q8,eInt,rmap_set,spD]
 refine SpecS.by (r01_signed_spec h4) (by simp only [seval,FMT,eInt,rmap_set,spD]) ?_
 simp only [seval,EMT,sz_133,eInt,rmap_set,spD]
 refine mU e (.ret λe h=>?_) h
 cases h
 simp only [seval,FMT,eInt,rmap_set,spD,Tryz.results116,ag_133,sz_133]
def r06_Parse (a0 : (List UInt8)) : Option (ApiRat × Int) := bindO (r06_Places a0) λ(y1 : Int)=>if (decide (y1 < 0)) = true then some (ApiRat.mk (ApiInt.mk false []) (ApiInt.mk false []),2) else bindO (guardO (okIdx a0) ( rangeX (λ(i1 : Nat) (c1 : UInt8) (v1 : (List UInt8))=>bindO (if ((decide ((c1.toNat : Int) ≥ 48)) && ((decide ((c1.toNat : Int) ≤ 57)) && (!(v1 == []) || ((c1.toNat : Int) != 48)))) = true then bindO (cutL a0 (i1 : Int) (zS.wrap ((i1 : Int) + 1))) λ(s1 : (List UInt8))=>guardO (okStr v1 s1) ( some (v1 ++ s1)) else some v1) λ(v2 : (List UInt8))=>some (.go v2)) (λ(v1 : (List UInt8))=>some v1) a0 0 [])) λ(v3 : (List UInt8))=>bindO (if (v3 == []) = true then some [48] else some v3) λ(v4 : (List UInt8))=>bindO (gt a0 0) λ(c2 : UInt8)=>bindO (if ((c2.toNat : Int) == 45) = true then guardO (okStr [45] v4) ( some ([45] ++ v4)) else some v4) λ(v5 : (List UInt8))=>bindO (r01_Parse v5) λ(y2 : ApiInt × Int)=>bindO (r02_FromInt y2.1) λ(y3 : ApiRat)=>bindO (r06_Power y1) λ(y4 : ApiRat)=>bindO (r02_Over y3 y4) λ(y5 : ApiRat)=>some (y5,0)
theorem r06_Parse_spec {a0 : (List UInt8)} {y : ApiRat × Int} (h : r06_Parse a0 = some y) : Spec gP 83 [.d (.str a0)] (.tuple [.agg [.d (.bool y.1.Num.Neg),.d (.list (zM (eInt .u32) y.1.Num.Limbs)),.d (.bool y.1.Den.Neg),.d (.list (zM (eInt .u32) y.1.Den.Limbs))],.d (.int .i64 y.2)]) := by
 refine spec_mir Tryz.func83 rfl (by kernel_rfl) (by kernel_rfl) (λy : ApiRat × Int=>.tuple [.agg [.d (.bool y.1.Num.Neg),.d (.list (zM (eInt .u32) y.1.Num.Limbs)),.d (.bool y.1.Den.Neg),.d (.list (zM (eInt .u32) y.1.Den.Limbs))],.d (.int .i64 y.2)]) ?_ h
 unfold r06_Parse
 simp only [zI,zK,nS,nA,Tryz.ntmps83,SV]
 refine .sR λe h=>?_
 simp only [seval,EMT,zero_135]
 refine mU e (.seqK (.bind λy1 hy1=>.region λe h=>?_)) h
 simp only [seval,EMT]
 refine SpecS.by (r06_Places_spec hy1) (by simp only [seval,FMT]) ?_
 simp only [seval,EMT]
 refine mU e (.seqK (.sR λe h=>?_)) h
 simp only [seval,EMT]
 refine mU e (.cond rfl (λhb3=>?_) (λhb3=>?_)) h
 refine .sR λe h=>?_
 simp only [seval,EMT,zero_135,pl_135,sz_135]
 refine mU e (.ret λe h=>?_) h
 cases h
 simp only [seval,FMT,Tryz.results83,ag_135,sz_135]
 refine .skip (Mir.toK (.sR λe h=>?_))
 simp only [seval,EMT]
 refine mU e (.seqK (.sR λe h=>?_)) h
 simp only [seval,EMT]
 refine mU e (Mir.joinO (λv3 : (List UInt8)=>([.d (.str a0),U,.ptr 0 0,U,.d (.int .i64 y1),.d (.str v3)] ++ us 58)) (λv3=>⟨[[.d (.bool false),.nil,.d (.bool false),.nil]],[]⟩) (λ_=>rfl) ?_ ?_) h
 refine .block (.guard λq1=>Mir.range (λ(i1 : Nat) (v1 : (List UInt8))=>([.d (.str a0),U,.ptr 0 0,U,.d (.int .i64 y1),.d (.str v1),.d (.int .i64 (i1 : Int))] ++ us 57)) (λi1 v1=>⟨[[.d (.bool false),.nil,.d (.bool false),.nil]],[]⟩) q1 (λ_ _=>rfl) (by simp only [seval,FMT,zNI]) (by simp only [seval,FMT,zNI]) ?_ ?_)
 intro i1 c1 v1 q2
 refine .seqK (.sR λe h=>?_)
 simp only [seval,EMT,und_9,q2]
 refine mU e (.condT rfl (.skip (Mir.toK (.seqK (Mir.joinO (λv2 : (List UInt8)=>([.d (.str a0),U,.ptr 0 0,U,.d (.int .i64 y1),.d (.str v2),.d (.int .i64 (i1 : Int))] ++ us 57)) (λv2=>⟨[[.d (.bool false),.nil,.d (.bool false),.nil]],[]⟩) (λ_=>rfl) ?_ ?_))))) h
 refine .block (.seqK (.joinV ([.d (.str a0),U,.ptr 0 0,U,.d (.int .i64 y1),.d (.str v1),.d (.int .i64 (i1 : Int)),U,U,U,U,U,U,U,U,U,U,U,U,U,U,U,U,U,U,U,U,U,U,U,U,U,U,U,U,U,U,U,U,.d (.bool ((decide ((c1.toNat : Int) ≥ 48)) && ((decide ((c1.toNat : Int) ≤ 57)) && (!(v1 == []) || ((c1.toNat : Int) != 48)))))] ++ us 24) ⟨[[.d (.bool false),.nil,.d (.bool false),.nil]],[]⟩ rfl ?_ ?_))
 refine SWs.region ?_
 rcases zH (decide ((c1.toNat : Int) ≥ 48)) with h1 | h1
 rcases zH (decide ((c1.toNat : Int) ≤ 57)) with h2 | h2
 rcases zH (v1 == []) with h3 | h3
 simp only [seval,EMT,SL,PB,und_9,zJ,q2,h1,h2,h3]
 simp only [seval,EMT,SL,PB,und_9,zJ,q2,h1,h2,h3]
 simp only [seval,EMT,SL,PB,und_9,zJ,q2,h1,h2]
 simp only [seval,EMT,SL,PB,und_9,zJ,q2,h1]
 refine Mir.toK (.cond rfl (λh4=>?_) (λh4=>?_))
 refine .bind λs1 q3=>?_
 replace q3 := cutL_ok q3
 simp only [zJ] at q3
 refine .guard λq4=>?_
 replace q4 := okStr_ok q4
 refine .region λe h=>?_
 simp only [seval,EMT,und_9,q3,zP,and_true,true_and,dm,tm,zJ,q4]
 cases h
 simp only [seval,FMT,Tryz.results83,ag_135,sz_135]
 refine .skip λe h=>?_
 cases h
 simp only [seval,FMT,Tryz.results83,ag_135,sz_135]
 intro v2
 refine Mir.toK (.region λe h=>?_)
 simp only [seval,EMT]
 cases h
 simp only [seval,FMT,Tryz.results83,ag_135,sz_135,q2]
 intro v1 q5
 refine .seqK (.sR λe h=>?_)
 simp only [seval,EMT,und_9,q5]
 refine mU e (.condF rfl (.exit λe h=>?_)) h
 cases h
 simp only [seval,FMT,Tryz.results83,ag_135,sz_135]
 intro v3
 refine Mir.toK (.seqK (.sR λe h=>?_))
 simp only [seval,EMT]
 refine mU e (Mir.joinO (λv4 : (List UInt8)=>([.d (.str a0),U,.ptr 0 0,U,.d (.int .i64 y1),.d (.str v4)] ++ us 58)) (λv4=>⟨[[.d (.bool false),.nil,.d (.bool false),.nil]],[]⟩) (λ_=>rfl) ?_ ?_) h
 refine .cond rfl (λh5=>?_) (λh5=>?_)
 refine .region λe h=>?_
 simp only [seval,EMT]
 cases h
 simp only [seval,FMT,Tryz.results83,ag_135,sz_135]
 refine .skip λe h=>?_
 cases h
 simp only [seval,FMT,Tryz.results83,ag_135,sz_135]
 intro v4
 refine Mir.toK (.seqK (.seqK (.bind λc2 q6=>?_)))
 replace q6 := gt_ok q6
 simp only [zL,zN,zO,dp0] at q6
 refine .region λe h=>?_
 simp only [seval,EMT,und_9,q6]
 refine mU e (Mir.joinO (λv5 : (List UInt8)=>([U,U,.ptr 0 0,U,.d (.int .i64 y1),.d (.str v5)] ++ us 58)) (λv5=>⟨[[.d (.bool false),.nil,.d (.bool false),.nil]],[]⟩) (λ_=>rfl) ?_ ?_) h
 refine .cond rfl (λh6=>?_) (λh6=>?_)
 refine .guard λq7=>?_
 replace q7 := okStr_ok q7
 try simp only [lm,xNA,xCA,xAN,xLC,xLN,xAC,xAL,nA,zQ] at q7
 refine .region λe h=>?_
 simp only [seval,EMT,q7]
 cases h
 simp only [seval,FMT,Tryz.results83,ag_135,sz_135]
 refine .skip λe h=>?_
 cases h
 simp only [seval,FMT,Tryz.results83,ag_135,sz_135]
 intro v5
 refine Mir.toK (.seqK (.bind λy2 h7=>.region λe h=>?_))
 simp only [seval,EMT]
 refine SpecS.by (r01_Parse_spec h7) (by simp only [seval,FMT]) ?_
 simp only [seval,EMT,zero_133,sz_133]
 refine mU e (.seqK (.bind λy3 h8=>.bind λy4 h9=>.bind λy5 h10=>.region λe h=>?_)) h
 simp only [seval,EMT,ag_133,sz_133]
 refine SpecS.by (r02_FromInt_spec h8) (by simp only [seval,FMT]) ?_
 simp only [seval,EMT]
 refine SpecS.by (r06_Power_spec h9) (by simp only [seval,FMT]) ?_
 simp only [seval,EMT]
 refine SpecS.by (r02_Over_spec h10) (by simp only [seval,FMT]) ?_
 simp only [seval,EMT,sz_135]
 refine mU e (.ret λe h=>?_) h
 cases h
 simp only [seval,FMT,Tryz.results83,ag_135,sz_135]
def r01_Format (a0 : ApiInt) : Option (List UInt8) := if ((a0.Limbs.length : Int) == 0) = true then some [48] else bindO (guardO (okIdx a0.Limbs) ( rangeX (λ(i1 : Nat) (e1 : Int) (v1 : (List UInt8))=>bindO (guardO (okStr (runeS (zU.wrap (zT.wrap (48 + (zG e1 10))))) v1) ( guardO (okStr (runeS (zU.wrap (zT.wrap (48 + (zG (zT.wrap (zC e1 10)) 10))))) ((runeS (zU.wrap (zT.wrap (48 + (zG e1 10))))) ++ v1)) ( guardO (okStr (runeS (zU.wrap (zT.wrap (48 + (zG (zT.wrap (zC (zT.wrap (zC e1 10)) 10)) 10))))) ((runeS (zU.wrap (zT.wrap (48 + (zG (zT.wrap (zC e1 10)) 10))))) ++ ((runeS (zU.wrap (zT.wrap (48 + (zG e1 10))))) ++ v1))) ( guardO (okStr (runeS (zU.wrap (zT.wrap (48 + (zG (zT.wrap (zC (zT.wrap (zC (zT.wrap (zC e1 10)) 10)) 10)) 10))))) ((runeS (zU.wrap (zT.wrap (48 + (zG (zT.wrap (zC (zT.wrap (zC e1 10)) 10)) 10))))) ++ ((runeS (zU.wrap (zT.wrap (48 + (zG (zT.wrap (zC e1 10)) 10))))) ++ ((runeS (zU.wrap (zT.wrap (48 + (zG e1 10))))) ++ v1)))) ( guardO (okStr (runeS (zU.wrap (zT.wrap (48 + (zG (zT.wrap (zC (zT.wrap (zC (zT.wrap (zC (zT.wrap (zC e1 10)) 10)) 10)) 10)) 10))))) ((runeS (zU.wrap (zT.wrap (48 + (zG (zT.wrap (zC (zT.wrap (zC (zT.wrap (zC e1 10)) 10)) 10)) 10))))) ++ ((runeS (zU.wrap (zT.wrap (48 + (zG (zT.wrap (zC (zT.wrap (zC e1 10)) 10)) 10))))) ++ ((runeS (zU.wrap (zT.wrap (48 + (zG (zT.wrap (zC e1 10)) 10))))) ++ ((runeS (zU.wrap (zT.wrap (48 + (zG e1 10))))) ++ v1))))) ( guardO (okStr (runeS (zU.wrap (zT.wrap (48 + (zG (zT.wrap (zC (zT.wrap (zC (zT.wrap (zC (zT.wrap (zC (zT.wrap (zC e1 10)) 10)) 10)) 10)) 10)) 10))))) ((runeS (zU.wrap (zT.wrap (48 + (zG (zT.wrap (zC (zT.wrap (zC (zT.wrap (zC (zT.wrap (zC e1 10)) 10)) 10)) 10)) 10))))) ++ ((runeS (zU.wrap (zT.wrap (48 + (zG (zT.wrap (zC (zT.wrap (zC (zT.wrap (zC e1 10)) 10)) 10)) 10))))) ++ ((runeS (zU.wrap (zT.wrap (48 + (zG (zT.wrap (zC (zT.wrap (zC e1 10)) 10)) 10))))) ++ ((runeS (zU.wrap (zT.wrap (48 + (zG (zT.wrap (zC e1 10)) 10))))) ++ ((runeS (zU.wrap (zT.wrap (48 + (zG e1 10))))) ++ v1)))))) ( guardO (okStr (runeS (zU.wrap (zT.wrap (48 + (zG (zT.wrap (zC (zT.wrap (zC (zT.wrap (zC (zT.wrap (zC (zT.wrap (zC (zT.wrap (zC e1 10)) 10)) 10)) 10)) 10)) 10)) 10))))) ((runeS (zU.wrap (zT.wrap (48 + (zG (zT.wrap (zC (zT.wrap (zC (zT.wrap (zC (zT.wrap (zC (zT.wrap (zC e1 10)) 10)) 10)) 10)) 10)) 10))))) ++ ((runeS (zU.wrap (zT.wrap (48 + (zG (zT.wrap (zC (zT.wrap (zC (zT.wrap (zC (zT.wrap (zC e1 10)) 10)) 10)) 10)) 10))))) ++ ((runeS (zU.wrap (zT.wrap (48 + (zG (zT.wrap (zC (zT.wrap (zC (zT.wrap (zC e1 10)) 10)) 10)) 10))))) ++ ((runeS (zU.wrap (zT.wrap (48 + (zG (zT.wrap (zC (zT.wrap (zC e1 10)) 10)) 10))))) ++ ((runeS (zU.wrap (zT.wrap (48 + (zG (zT.wrap (zC e1 10)) 10))))) ++ ((runeS (zU.wrap (zT.wrap (48 + (zG e1 10))))) ++ v1))))))) ( guardO (okStr (runeS (zU.wrap (zT.wrap (48 + (zG (zT.wrap (zC (zT.wrap (zC (zT.wrap (zC (zT.wrap (zC (zT.wrap (zC (zT.wrap (zC (zT.wrap (zC e1 10)) 10)) 10)) 10)) 10)) 10)) 10)) 10))))) ((runeS (zU.wrap (zT.wrap (48 + (zG (zT.wrap (zC (zT.wrap (zC (zT.wrap (zC (zT.wrap (zC (zT.wrap (zC (zT.wrap (zC e1 10)) 10)) 10)) 10)) 10)) 10)) 10))))) ++ ((runeS (zU.wrap (zT.wrap (48 + (zG (zT.wrap (zC (zT.wrap (zC (zT.wrap (zC (zT.wrap (zC (zT.wrap (zC e1 10)) 10)) 10)) 10)) 10)) 10))))) ++ ((runeS (zU.wrap (zT.wrap (48 + (zG (zT.wrap (zC (zT.wrap (zC (zT.wrap (zC (zT.wrap (zC e1 10)) 10)) 10)) 10)) 10))))) ++ ((runeS (zU.wrap (zT.wrap (48 + (zG (zT.wrap (zC (zT.wrap (zC (zT.wrap (zC e1 10)) 10)) 10)) 10))))) ++ ((runeS (zU.wrap (zT.wrap (48 + (zG (zT.wrap (zC (zT.wrap (zC e1 10)) 10)) 10))))) ++ ((runeS (zU.wrap (zT.wrap (48 + (zG (zT.wrap (zC e1 10)) 10))))) ++ ((runeS (zU.wrap (zT.wrap (48 + (zG e1 10))))) ++ v1)))))))) ( guardO (okStr (runeS (zU.wrap (zT.wrap (48 + (zG (zT.wrap (zC (zT.wrap (zC (zT.wrap (zC (zT.wrap (zC (zT.wrap (zC (zT.wrap (zC (zT.wrap (zC (zT.wrap (zC e1 10)) 10)) 10)) 10)) 10)) 10)) 10)) 10)) 10))))) ((runeS (zU.wrap (zT.wrap (48 + (zG (zT.wrap (zC (zT.wrap (zC (zT.wrap (zC (zT.wrap (zC (zT.wrap (zC (zT.wrap (zC (zT.wrap (zC e1 10)) 10)) 10)) 10)) 10)) 10)) 10)) 10))))) ++ ((runeS (zU.wrap (zT.wrap (48 + (zG (zT.wrap (zC (zT.wrap (zC (zT.wrap (zC (zT.wrap (zC (zT.wrap (zC (zT.wrap (zC e1 10)) 10)) 10)) 10)) 10)) 10)) 10))))) ++ ((runeS (zU.wrap (zT.wrap (48 + (zG (zT.wrap (zC (zT.wrap (zC (zT.wrap (zC (zT.wrap (zC (zT.wrap (zC e1 10)) 10)) 10)) 10)) 10)) 10))))) ++ ((runeS (zU.wrap (zT.wrap (48 + (zG (zT.wrap (zC (zT.wrap (zC (zT.wrap (zC (zT.wrap (zC e1 10)) 10)) 10)) 10)) 10))))) ++ ((runeS (zU.wrap (zT.wrap (48 + (zG (zT.wrap (zC (zT.wrap (zC (zT.wrap (zC e1 10)) 10)) 10)) 10))))) ++ ((runeS (zU.wrap (zT.wrap (48 + (zG (zT.wrap (zC (zT.wrap (zC e1 10)) 10)) 10))))) ++ ((runeS (zU.wrap (zT.wrap (48 + (zG (zT.wrap (zC e1 10)) 10))))) ++ ((runeS (zU.wrap (zT.wrap (48 + (zG e1 10))))) ++ v1))))))))) ( some ())))))))))) λ(v2 : Unit)=>some (.go ((runeS (zU.wrap (zT.wrap (48 + (zG (zT.wrap (zC (zT.wrap (zC (zT.wrap (zC (zT.wrap (zC (zT.wrap (zC (zT.wrap (zC (zT.wrap (zC (zT.wrap (zC e1 10)) 10)) 10)) 10)) 10)) 10)) 10)) 10)) 10))))) ++ ((runeS (zU.wrap (zT.wrap (48 + (zG (zT.wrap (zC (zT.wrap (zC (zT.wrap (zC (zT.wrap (zC (zT.wrap (zC (zT.wrap (zC (zT.wrap (zC e1 10)) 10)) 10)) 10)) 10)) 10)) 10)) 10))))) ++ ((runeS (zU.wrap (zT.wrap (48 + (zG (zT.wrap (zC (zT.wrap (zC (zT.wrap (zC (zT.wrap (zC (zT.wrap (zC (zT.wrap (zC e1 10)) 10)) 10)) 10)) 10)) 10)) 10))))) ++ ((runeS (zU.wrap (zT.wrap (48 + (zG (zT.wrap (zC (zT.wrap (zC (zT.wrap (zC (zT.wrap (zC (zT.wrap (zC e1 10)) 10)) 10)) 10)) 10)) 10))))) ++ ((runeS (zU.wrap (zT.wrap (48 + (zG (zT.wrap (zC (zT.wrap (zC (zT.wrap (zC (zT.wrap (zC e1 10)) 10)) 10)) 10)) 10))))) ++ ((runeS (zU.wrap (zT.wrap (48 + (zG (zT.wrap (zC (zT.wrap (zC (zT.wrap (zC e1 10)) 10)) 10)) 10))))) ++ ((runeS (zU.wrap (zT.wrap (48 + (zG (zT.wrap (zC (zT.wrap (zC e1 10)) 10)) 10))))) ++ ((runeS (zU.wrap (zT.wrap (48 + (zG (zT.wrap (zC e1 10)) 10))))) ++ ((runeS (zU.wrap (zT.wrap (48 + (zG e1 10))))) ++ v1))))))))))) (λ(v1 : (List UInt8))=>some v1) a0.Limbs 0 [])) λ(v3 : (List UInt8))=>bindO (loopX (λ(v4 : (List UInt8))=>bindO (gt v4 0) λ(c1 : UInt8)=>if ((c1.toNat : Int) == 48) = true then bindO (cutF v4 1) λ(s1 : (List UInt8))=>some (.go s1) else some (.ret v4)) fuel v3) λ(v5 : (List UInt8))=>bindO (if a0.Neg = true then guardO (okStr [45] v5) ( some ([45] ++ v5)) else some v5) λ(v6 : (List UInt8))=>some v6
theorem r01_Format_spec {a0 : ApiInt} {y : (List UInt8)} (h : r01_Format a0 = some y) : Spec gP 132 [.agg [.d (.bool a0.Neg),.d (.list (zM (eInt .u32) a0.Limbs))]] (.d (.str y)) := by
 refine spec_mir Tryz.func132 rfl (by kernel_rfl) (by kernel_rfl) (λy : (List UInt8)=>.d (.str y)) ?_ h
 unfold r01_Format
 simp only [zI,zK,nS,nA,Tryz.ntmps132,SV]
 refine .sR λe h=>?_
 simp only [seval,EMT,eInt]
 refine mU e (.seqK (.sR λe h=>?_)) h
 simp only [seval,EMT,fld_133_1,sz_131,ag_131,und_131,eInt]
 refine mU e (.cond rfl (λhb2=>?_) (λhb2=>?_)) h
 refine .sR λe h=>?_
 simp only [seval,EMT,eInt]
 refine mU e (.ret λe h=>?_) h
 cases h
 simp only [seval,FMT,eInt,Tryz.results132]
 refine .skip (Mir.toK (.sR λe h=>?_))
 simp only [seval,EMT,eInt]
 refine mU e (.seqK (.sR λe h=>?_)) h
 simp only [seval,EMT,eInt]
 refine mU e (Mir.joinO (λv3 : (List UInt8)=>([U,.ptr 0 0,U,.d (.str v3)] ++ us 42)) (λv3=>⟨[[.d (.bool a0.Neg),.d (.list (zM (eInt .u32) a0.Limbs))]],[]⟩) (λ_=>rfl) ?_ ?_) h
 refine .block (.guard λq1=>Mir.range (λ(i1 : Nat) (v1 : (List UInt8))=>([U,.ptr 0 0,U,.d (.str v1),.d (.int .i64 (i1 : Int))] ++ us 41)) (λi1 v1=>⟨[[.d (.bool a0.Neg),.d (.list (zM (eInt .u32) a0.Limbs))]],[]⟩) q1 (λ_ _=>rfl) (by simp only [seval,FMT,eInt,zNI]) (by simp only [seval,FMT,eInt,zNI]) ?_ ?_)
 intro i1 e1 v1 q2
 refine .seqK (.sR λe h=>?_)
 simp only [seval,EMT,fld_133_1,sz_131,ag_131,und_131,q2,eInt]
 refine mU e (.condT rfl (.skip (Mir.toK (.seqK (Mir.joinO (λv2 : Unit=>([U,.ptr 0 0,U,.d (.str ((runeS (zU.wrap (zT.wrap (48 + (zG (zT.wrap (zC (zT.wrap (zC (zT.wrap (zC (zT.wrap (zC (zT.wrap (zC (zT.wrap (zC (zT.wrap (zC (zT.wrap (zC e1 10)) 10)) 10)) 10)) 10)) 10)) 10)) 10)) 10))))) ++ ((runeS (zU.wrap (zT.wrap (48 + (zG (zT.wrap (zC (zT.wrap (zC (zT.wrap (zC (zT.wrap (zC (zT.wrap (zC (zT.wrap (zC (zT.wrap (zC e1 10)) 10)) 10)) 10)) 10)) 10)) 10)) 10))))) ++ ((runeS (zU.wrap (zT.wrap (48 + (zG (zT.wrap (zC (zT.wrap (zC (zT.wrap (zC (zT.wrap (zC (zT.wrap (zC (zT.wrap (zC e1 10)) 10)) 10)) 10)) 10)) 10)) 10))))) ++ ((runeS (zU.wrap (zT.wrap (48 + (zG (zT.wrap (zC (zT.wrap (zC (zT.wrap (zC (zT.wrap (zC (zT.wrap (zC e1 10)) 10)) 10)) 10)) 10)) 10))))) ++ ((runeS (zU.wrap (zT.wrap (48 + (zG (zT.wrap (zC (zT.wrap (zC (zT.wrap (zC (zT.wrap (zC e1 10)) 10)) 10)) 10)) 10))))) ++ ((runeS (zU.wrap (zT.wrap (48 + (zG (zT.wrap (zC (zT.wrap (zC (zT.wrap (zC e1 10)) 10)) 10)) 10))))) ++ ((runeS (zU.wrap (zT.wrap (48 + (zG (zT.wrap (zC (zT.wrap (zC e1 10)) 10)) 10))))) ++ ((runeS (zU.wrap (zT.wrap (48 + (zG (zT.wrap (zC e1 10)) 10))))) ++ ((runeS (zU.wrap (zT.wrap (48 + (zG e1 10))))) ++ v1)))))))))),.d (.int .i64 (i1 : Int))] ++ us 41)) (λv2=>⟨[[.d (.bool a0.Neg),.d (.list (zM (eInt .u32) a0.Limbs))]],[]⟩) (λ_=>rfl) ?_ ?_))))) h
 refine .block (.sR λe h=>?_)
 simp only [seval,EMT,fld_133_1,sz_131,ag_131,und_131,sz_155,q2,zJ,ag_155,eInt]
 refine mU e (.sR λe h=>?_) h
 simp only [seval,EMT,eInt]
 refine mU e (.block (.loopR 15 (.seqK (.sR λe h=>?_)))) h
 simp only [seval,EMT,eInt]
 refine mU e (.condT rfl (.skip (Mir.toK (.seqK (.block (.seqK (.guard λq3=>?_))))))) h
 replace q3 := okStr_ok q3
 refine .region λe h=>?_
 simp only [seval,EMT,und_155,und_21,und_9,rune_enc,q3,eInt]
 refine mU e (.region λe h=>?_) h
 simp only [seval,EMT,eInt]
 refine mU e (.region λe h=>?_) h
 simp only [seval,EMT,(nr rfl : zS.wrap 1 = 1),eInt]
 refine Mir.useN (e := e) ?_ h
 refine .seqK (.sR λe h=>?_)
 simp only [seval,EMT,eInt]
 refine mU e (.condT rfl (.skip (Mir.toK (.seqK (.block (.seqK (.guard λq4=>?_))))))) h
 replace q4 := okStr_ok q4
 refine .region λe h=>?_
 simp only [seval,EMT,und_155,und_21,und_9,rune_enc,q4,eInt]
 refine mU e (.region λe h=>?_) h
 simp only [seval,EMT,eInt]
 refine mU e (.region λe h=>?_) h
 simp only [seval,EMT,(nr rfl : zS.wrap 2 = 2),eInt]
 refine Mir.useN (e := e) ?_ h
 refine .seqK (.sR λe h=>?_)
 simp only [seval,EMT,eInt]
 refine mU e (.condT rfl (.skip (Mir.toK (.seqK (.block (.seqK (.guard λq5=>?_))))))) h
 replace q5 := okStr_ok q5
 refine .region λe h=>?_
 simp only [seval,EMT,und_155,und_21,und_9,rune_enc,q5,eInt]
 refine mU e (.region λe h=>?_) h
 simp only [seval,EMT,eInt]
 refine mU e (.region λe h=>?_) h
 simp only [seval,EMT,(nr rfl : zS.wrap 3 = 3),eInt]
 refine Mir.useN (e := e) ?_ h
 refine .seqK (.sR λe h=>?_)
 simp only [seval,EMT,eInt]
 refine mU e (.condT rfl (.skip (Mir.toK (.seqK (.block (.seqK (.guard λq6=>?_))))))) h
 replace q6 := okStr_ok q6
 refine .region λe h=>?_
 simp only [seval,EMT,und_155,und_21,und_9,rune_enc,q6,eInt]
 refine mU e (.region λe h=>?_) h
 simp only [seval,EMT,eInt]
 refine mU e (.region λe h=>?_) h
 simp only [seval,EMT,(nr rfl : zS.wrap 4 = 4),eInt]
 refine Mir.useN (e := e) ?_ h
 refine .seqK (.sR λe h=>?_)
 simp only [seval,EMT,eInt]
 refine mU e (.condT rfl (.skip (Mir.toK (.seqK (.block (.seqK (.guard λq7=>?_))))))) h
 replace q7 := okStr_ok q7
 refine .region λe h=>?_
 simp only [seval,EMT,und_155,und_21,und_9,rune_enc,q7,eInt]
 refine mU e (.region λe h=>?_) h
 simp only [seval,EMT,eInt]
 refine mU e (.region λe h=>?_) h
 simp only [seval,EMT,(nr rfl : zS.wrap 5 = 5),eInt]
 refine Mir.useN (e := e) ?_ h
 refine .seqK (.sR λe h=>?_)
 simp only [seval,EMT,eInt]
 refine mU e (.condT rfl (.skip (Mir.toK (.seqK (.block (.seqK (.guard λq8=>?_))))))) h
 replace q8 := okStr_ok q8
 refine .region λe h=>?_
 simp only [seval,EMT,und_155,und_21,und_9,rune_enc,q8,eInt]
 refine mU e (.region λe h=>?_) h
 simp only [seval,EMT,eInt]
 refine mU e (.region λe h=>?_) h
 simp only [seval,EMT,(nr rfl : zS.wrap 6 = 6),eInt]
 refine Mir.useN (e := e) ?_ h
 refine .seqK (.sR λe h=>?_)
 simp only [seval,EMT,eInt]
 refine mU e (.condT rfl (.skip (Mir.toK (.seqK (.block (.seqK (.guard λq9=>?_))))))) h
 replace q9 := okStr_ok q9
 refine .region λe h=>?_
 simp only [seval,EMT,und_155,und_21,und_9,rune_enc,q9,eInt]
 refine mU e (.region λe h=>?_) h
 simp only [seval,EMT,eInt]
 refine mU e (.region λe h=>?_) h
 simp only [seval,EMT,(nr rfl : zS.wrap 7 = 7),eInt]
 refine Mir.useN (e := e) ?_ h
 refine .seqK (.sR λe h=>?_)
 simp only [seval,EMT,eInt]
 refine mU e (.condT rfl (.skip (Mir.toK (.seqK (.block (.seqK (.guard λq10=>?_))))))) h
 replace q10 := okStr_ok q10
 refine .region λe h=>?_
 simp only [seval,EMT,und_155,und_21,und_9,rune_enc,q10,eInt]
 refine mU e (.region λe h=>?_) h
 simp only [seval,EMT,eInt]
 refine mU e (.region λe h=>?_) h
 simp only [seval,EMT,(nr rfl : zS.wrap 8 = 8),eInt]
 refine Mir.useN (e := e) ?_ h
 refine .seqK (.sR λe h=>?_)
 simp only [seval,EMT,eInt]
 refine mU e (.condT rfl (.skip (Mir.toK (.seqK (.block (.seqK (.guard λq11=>?_))))))) h
 replace q11 := okStr_ok q11
 refine .region λe h=>?_
 simp only [seval,EMT,und_155,und_21,und_9,rune_enc,q11,eInt]
 refine mU e (.region λe h=>?_) h
 simp only [seval,EMT,eInt]
 refine mU e (.region λe h=>?_) h
 simp only [seval,EMT,(nr rfl : zS.wrap 9 = 9),eInt]
 refine Mir.useN (e := e) ?_ h
 refine .seqK (.sR λe h=>?_)
 simp only [seval,EMT,eInt]
 refine mU e (.condF rfl (.exit λe h=>?_)) h
 cases h
 simp only [seval,FMT,eInt,Tryz.results132]
 intro v2
 refine Mir.toK (.region λe h=>?_)
 simp only [seval,EMT,eInt]
 cases h
 simp only [seval,FMT,eInt,Tryz.results132,q2]
 intro v1 q12
 refine .seqK (.sR λe h=>?_)
 simp only [seval,EMT,fld_133_1,sz_131,ag_131,und_131,q12,eInt]
 refine mU e (.condF rfl (.exit λe h=>?_)) h
 cases h
 simp only [seval,FMT,eInt,Tryz.results132]
 intro v3
 refine Mir.toK (.seqK (Mir.joinO (λv5 : (List UInt8)=>([U,.ptr 0 0,U,.d (.str v5)] ++ us 42)) (λv5=>⟨[[.d (.bool a0.Neg),.d (.list (zM (eInt .u32) a0.Limbs))]],[]⟩) (λ_=>rfl) ?_ ?_))
 refine .block (Mir.loop (λv4 : (List UInt8)=>([U,.ptr 0 0,U,.d (.str v4)] ++ us 42)) (λv4=>⟨[[.d (.bool a0.Neg),.d (.list (zM (eInt .u32) a0.Limbs))]],[]⟩) (λ_=>rfl) (by simp only [seval,FMT,eInt]) (by simp only [seval,FMT,eInt]) λv4=>.seqK (.seqK (.bind λc1 q13=>?_)))
 replace q13 := gt_ok q13
 simp only [zL,zN,zO,dp0] at q13
 refine .region λe h=>?_
 simp only [seval,EMT,und_9,q13,eInt]
 refine mU e (.cond rfl (λh1=>?_) (λh1=>?_)) h
 refine .skip (Mir.toK (.block (.bind λs1 q14=>?_)))
 replace q14 := cutF_ok q14
 simp only [zL,zN,zO,dp0] at q14
 refine .region λe h=>?_
 simp only [seval,EMT,und_9,q14,zP,and_true,true_and,dm,tm,eInt]
 cases h
 simp only [seval,FMT,eInt,Tryz.results132]
 refine .exit λe h=>?_
 cases h
 simp only [seval,FMT,eInt,Tryz.results132]
 intro v5
 refine Mir.toK (.seqK (.sR λe h=>?_))
 simp only [seval,EMT,fld_133_0,sz_4,ag_4,eInt]
 refine mU e (Mir.joinO (λv6 : (List UInt8)=>([U,U,U,.d (.str v6)] ++ us 42)) (λv6=>⟨[[.d (.bool a0.Neg),.d (.list (zM (eInt .u32) a0.Limbs))]],[]⟩) (λ_=>rfl) ?_ ?_) h
 refine .cond rfl (λh2=>?_) (λh2=>?_)
 refine .guard λq15=>?_
 replace q15 := okStr_ok q15
 try simp only [lm,xNA,xCA,xAN,xLC,xLN,xAC,xAL,nA,zQ] at q15
 refine .region λe h=>?_
 simp only [seval,EMT,q15,eInt]
 cases h
 simp only [seval,FMT,eInt,Tryz.results132]
 refine .skip λe h=>?_
 cases h
 simp only [seval,FMT,eInt,Tryz.results132]
 intro v6
 refine Mir.toK (.sR λe h=>?_)
 simp only [seval,EMT,eInt]
 refine mU e (.ret λe h=>?_) h
 cases h
 simp only [seval,FMT,eInt,Tryz.results132]
def r06_shown (a0 : ApiInt) (a1 : Int) : Option (List UInt8) := bindO (r01_Format a0) λ(y1 : (List UInt8))=>bindO (gt y1 0) λ(c1 : UInt8)=>bindO (if ((c1.toNat : Int) == 45) = true then bindO (cutF y1 1) λ(s1 : (List UInt8))=>some (s1,[45]) else some (y1,[])) λ(v1 : (List UInt8) × (List UInt8))=>bindO (loopX (λ(v2 : (List UInt8))=>if (decide ((v2.length : Int) ≤ a1)) = true then guardO (okStr [48] v2) ( some (.go ([48] ++ v2))) else some (.ret v2)) fuel v1.1) λ(v3 : (List UInt8))=>if (a1 == 0) = true then guardO (okStr v1.2 v3) ( some (v1.2 ++ v3)) else bindO (cutT v3 (zS.wrap ((v3.length : Int) - a1))) λ(s2 : (List UInt8))=>guardO (okStr v1.2 s2) ( guardO (okStr (v1.2 ++ s2) [46]) ( bindO (cutF v3 (zS.wrap ((v3.length : Int) - a1))) λ(s3 : (List UInt8))=>guardO (okStr ((v1.2 ++ s2) ++ [46]) s3) ( some (((v1.2 ++ s2) ++ [46]) ++ s3))))
theorem r06_shown_spec {a0 : ApiInt} {a1 : Int} {y : (List UInt8)} (h : r06_shown a0 a1 = some y) : Spec gP 100 [.agg [.d (.bool a0.Neg),.d (.list (zM (eInt .u32) a0.Limbs))],.d (.int .i64 a1)] (.d (.str y)) := by
 refine spec_mir Tryz.func100 rfl (by kernel_rfl) (by kernel_rfl) (λy : (List UInt8)=>.d (.str y)) ?_ h
 unfold r06_shown
 simp only [zI,zK,nS,nA,Tryz.ntmps100,SV]
 refine .sR λe h=>?_
 simp only [seval,EMT,eInt]
 refine mU e (.seqK (.bind λy1 hy1=>.region λe h=>?_)) h
 simp only [seval,EMT,ag_133,sz_133,eInt]
 refine SpecS.by (r01_Format_spec hy1) (by simp only [seval,FMT,eInt]) ?_
 simp only [seval,EMT,eInt]
 refine mU e (.sR λe h=>?_) h
 simp only [seval,EMT,eInt]
 refine mU e (.seqK (.seqK (.bind λc1 q2=>?_))) h
 replace q2 := gt_ok q2
 simp only [zL,zN,zO,dp0] at q2
 refine .region λe h=>?_
 simp only [seval,EMT,und_9,q2,eInt]
 refine mU e (Mir.joinO (λv1 : (List UInt8) × (List UInt8)=>([U,.d (.int .i64 a1),U,U,U,.d (.str v1.1),.d (.str v1.2)] ++ us 33)) (λv1=>⟨[[.d (.bool a0.Neg),.d (.list (zM (eInt .u32) a0.Limbs))]],[]⟩) (λ_=>rfl) ?_ ?_) h
 refine .cond rfl (λhb5=>?_) (λhb5=>?_)
 refine .bind λs1 q6=>?_
 replace q6 := cutF_ok q6
 simp only [zL,zN,zO,dp0] at q6
 refine .regionD [] (by kernel_rfl) λe h=>?_
 simp only [seval,EMT,SB,und_9,q6,zP,and_true,true_and,dm,tm,eInt]
 cases h
 simp only [seval,FMT,eInt,Tryz.results100]
 refine .skip λe h=>?_
 cases h
 simp only [seval,FMT,eInt,Tryz.results100]
 intro v1
 refine Mir.toK (.seqK (Mir.joinO (λv3 : (List UInt8)=>([U,.d (.int .i64 a1),U,U,U,.d (.str v3),.d (.str v1.2)] ++ us 33)) (λv3=>⟨[[.d (.bool a0.Neg),.d (.list (zM (eInt .u32) a0.Limbs))]],[]⟩) (λ_=>rfl) ?_ ?_))
 refine .block (Mir.loop (λv2 : (List UInt8)=>([U,.d (.int .i64 a1),U,U,U,.d (.str v2),.d (.str v1.2)] ++ us 33)) (λv2=>⟨[[.d (.bool a0.Neg),.d (.list (zM (eInt .u32) a0.Limbs))]],[]⟩) (λ_=>rfl) (by simp only [seval,FMT,eInt]) (by simp only [seval,FMT,eInt]) λv2=>.seqK (.sR λe h=>?_))
 simp only [seval,EMT,und_9,eInt]
 refine mU e (.cond rfl (λhb23=>?_) (λhb23=>?_)) h
 refine .skip (Mir.toK (.block (.guard λq24=>?_)))
 replace q24 := okStr_ok q24
 try simp only [lm,xNA,xCA,xAN,xLC,xLN,xAC,xAL,nA,zQ] at q24
 refine .region λe h=>?_
 simp only [seval,EMT,q24,eInt]
 cases h
 simp only [seval,FMT,eInt,Tryz.results100]
 refine .exit λe h=>?_
 cases h
 simp only [seval,FMT,eInt,Tryz.results100]
 intro v3
 refine Mir.toK (.sR λe h=>?_)
 simp only [seval,EMT,und_9,eInt]
 refine mU e (.seqK (.sR λe h=>?_)) h
 simp only [seval,EMT,eInt]
 refine mU e (.cond rfl (λhb27=>?_) (λhb27=>?_)) h
 refine .seqK (.guard λq28=>?_)
 replace q28 := okStr_ok q28
 refine .region λe h=>?_
 simp only [seval,EMT,q28,eInt]
 refine mU e (.ret λe h=>?_) h
 cases h
 simp only [seval,FMT,eInt,Tryz.results100]
 refine .skip (Mir.toK (.seqK (.bind λs2 q29=>?_)))
 replace q29 := cutT_ok q29
 refine .guard λq30=>?_
 replace q30 := okStr_ok q30
 refine .guard λq31=>?_
 replace q31 := okStr_ok q31
 try simp only [lm,xNA,xCA,xAN,xLC,xLN,xAC,xAL,nA,zQ] at q31
 refine .bind λs3 q32=>?_
 replace q32 := cutF_ok q32
 refine .guard λq33=>?_
 replace q33 := okStr_ok q33
 try simp only [lm,xNA,xCA,xAN,xLC,xLN,xAC,xAL,nA,zQ] at q33
 refine .regionD [] (by kernel_rfl) λe h=>?_
 simp only [seval,EMT,SB,und_9,q29,zP,and_true,true_and,dm,tm,q30,q31,q32,q33,eInt]
 refine mU e (.ret λe h=>?_) h
 cases h
 simp only [seval,FMT,eInt,Tryz.results100]
def r06_Exact (a0 : ApiRat) : Option ((List UInt8) × Bool) := bindX (loopX (λ(v1 : Int)=>if (decide (v1 ≤ 30)) = true then bindO (r06_Power v1) λ(y1 : ApiRat)=>bindO (r02_Mul (ApiRat.mk a0.Num a0.Den) y1) λ(y2 : ApiRat)=>bindO (r01_FromInt64 1) λ(y3 : ApiInt)=>bindO (r01_Same y2.Den y3) λ(y4 : Bool)=>if y4 = true then bindO (r06_shown y2.Num v1) λ(y5 : (List UInt8))=>if (decide ((y5.length : Int) > 1000)) = true then some (.ret (.ret ([],false))) else some (.ret (.ret (y5,true))) else some (.go (zS.wrap (v1 + 1))) else some (.ret (.go ()))) fuel 0) λ(v2 : Unit)=>some ([],false)
theorem r06_Exact_spec {a0 : ApiRat} {y : (List UInt8) × Bool} (h : r06_Exact a0 = some y) : Spec gP 75 [.agg [.d (.bool a0.Num.Neg),.d (.list (zM (eInt .u32) a0.Num.Limbs)),.d (.bool a0.Den.Neg),.d (.list (zM (eInt .u32) a0.Den.Limbs))]] (.tuple [.d (.str y.1),.d (.bool y.2)]) := by
 refine spec_mir Tryz.func75 rfl (by kernel_rfl) (by kernel_rfl) (λy : (List UInt8) × Bool=>.tuple [.d (.str y.1),.d (.bool y.2)]) ?_ h
 unfold r06_Exact
 simp only [zI,zK,nS,nA,Tryz.ntmps75,SV]
 refine .sR λe h=>?_
 simp only [seval,EMT,eInt]
 refine mU e (.seqK (.sR λe h=>?_)) h
 simp only [seval,EMT,eInt]
 refine mU e (Mir.join (λv2 : Unit=>(us 27)) (λv2=>⟨[[.d (.bool a0.Num.Neg),.d (.list (zM (eInt .u32) a0.Num.Limbs)),.d (.bool a0.Den.Neg),.d (.list (zM (eInt .u32) a0.Den.Limbs))]],[]⟩) (λ_=>rfl) ?_ ?_) h
 refine .block (Mir.loop (λv1 : Int=>([U,.ptr 0 0,U,U,.d (.int .i64 v1)] ++ us 22)) (λv1=>⟨[[.d (.bool a0.Num.Neg),.d (.list (zM (eInt .u32) a0.Num.Limbs)),.d (.bool a0.Den.Neg),.d (.list (zM (eInt .u32) a0.Den.Limbs))]],[]⟩) (λ_=>rfl) (by simp only [seval,FMT,eInt]) (by simp only [seval,FMT,eInt]) λv1=>.seqK (.sR λe h=>?_))
 simp only [seval,EMT,eInt]
 refine mU e (.cond rfl (λh1=>?_) (λh1=>?_)) h
 refine .skip (Mir.toK (.seqK (.block (.seqK (.bind λy1 h2=>.bind λy2 h3=>.regionD [] (by kernel_rfl) λe h=>?_)))))
 simp only [seval,EMT,SB,ag_135,sz_135,eInt]
 refine Spec.by (r06_Power_spec h2) (by simp only [seval,FMT,eInt]) ?_
 simp only [seval,EMT,SB,eInt]
 refine Spec.by (r02_Mul_spec h3) (by simp only [seval,FMT,eInt]) ?_
 simp only [seval,EMT,SB,zero_135,sz_135,eInt]
 refine mU e (.seqK (.bind λy3 h4=>.bind λy4 h5=>.regionD [] (by kernel_rfl) λe h=>?_)) h
 simp only [seval,EMT,SB,fld_135_1,sz_133,ag_133,eInt]
 refine Spec.by (r01_FromInt64_spec h4) (by simp only [seval,FMT,eInt]) ?_
 simp only [seval,EMT,SB,eInt]
 refine Spec.by (r01_Same_spec h5) (by simp only [seval,FMT,eInt]) ?_
 simp only [seval,EMT,SB,eInt]
 refine mU e (.cond rfl (λh6=>?_) (λh6=>?_)) h
 refine .seqK (.bind λy5 h7=>.region λe h=>?_)
 simp only [seval,EMT,fld_135_0,sz_133,ag_133,eInt]
 refine SpecS.by (r06_shown_spec h7) (by simp only [seval,FMT,eInt]) ?_
 simp only [seval,EMT,eInt]
 refine mU e (.seqK (.sR λe h=>?_)) h
 simp only [seval,EMT,und_9,eInt]
 refine mU e (.cond rfl (λh8=>?_) (λh8=>?_)) h
 refine .sR λe h=>?_
 simp only [seval,EMT,eInt]
 refine mU e (.ret λe h=>?_) h
 cases h
 simp only [seval,FMT,eInt,Tryz.results75]
 refine .skip (Mir.toK (.sR λe h=>?_))
 simp only [seval,EMT,eInt]
 refine mU e (.ret λe h=>?_) h
 cases h
 simp only [seval,FMT,eInt,Tryz.results75]
 refine .skip (Mir.toB (Mir.toK (.region λe h=>?_)))
 simp only [seval,EMT,eInt]
 cases h
 simp only [seval,FMT,eInt,Tryz.results75]
 refine .exit λe h=>?_
 cases h
 simp only [seval,FMT,eInt,Tryz.results75]
 intro v2
 refine Mir.toK (.sR λe h=>?_)
 simp only [seval,EMT,eInt]
 refine mU e (.ret λe h=>?_) h
 cases h
 simp only [seval,FMT,eInt,Tryz.results75]
def r06_Millimetres (a0 : Int) : Option (List UInt8) := bindO (r02_Frac a0 1000) λ(y1 : ApiRat)=>bindO (r06_Exact y1) λ(y2 : (List UInt8) × Bool)=>some y2.1
theorem r06_Millimetres_spec {a0 : Int} {y : (List UInt8)} (h : r06_Millimetres a0 = some y) : Spec gP 46 [.d (.int .i64 a0)] (.d (.str y)) := by
 refine spec_mir Tryz.func46 rfl (by kernel_rfl) (by kernel_rfl) (λy : (List UInt8)=>.d (.str y)) ?_ h
 unfold r06_Millimetres
 simp only [zI,zK,nS,nA,Tryz.ntmps46,SV]
 refine .sR λe h=>?_
 simp only [seval,EMT]
 refine mU e (.seqK (.bind λy1 hy1=>.bind λy2 hy2=>.region λe h=>?_)) h
 simp only [seval,EMT]
 refine SpecS.by (r02_Frac_spec hy1) (by simp only [seval,FMT]) ?_
 simp only [seval,EMT]
 refine SpecS.by (r06_Exact_spec hy2) (by simp only [seval,FMT]) ?_
 simp only [seval,EMT]
 refine mU e (.sR λe h=>?_) h
 simp only [seval,EMT]
 refine mU e (.ret λe h=>?_) h
 cases h
 simp only [seval,FMT,Tryz.results46]
def stringslite_HasPrefix (a0 : (List UInt8)) (a1 : (List UInt8)) : Option Bool := bindO (if (decide ((a0.length : Int) ≥ (a1.length : Int))) = true then bindO (cutT a0 (a1.length : Int)) λ(s1 : (List UInt8))=>some (s1 == a1) else some false) λ(v1 : Bool)=>some v1
theorem stringslite_HasPrefix_spec {a0 : (List UInt8)} {a1 : (List UInt8)} {y : Bool} (h : stringslite_HasPrefix a0 a1 = some y) : Spec gP 170 [.d (.str a0),.d (.str a1)] (.d (.bool y)) := by
 refine spec_mir Tryz.func170 rfl (by kernel_rfl) (by kernel_rfl) (λy : Bool=>.d (.bool y)) ?_ h
 unfold stringslite_HasPrefix
 simp only [zI,zK,nS,nA,Tryz.ntmps170,SV]
 refine .sR λe h=>?_
 simp only [seval,EMT]
 refine mU e (.seqK (Mir.joinO (λv1 : Bool=>([U,U,U,U,.d (.bool v1)] ++ us 13)) (λv1=>⟨[],[]⟩) (λ_=>rfl) ?_ ?_)) h
 refine .ite (λhb1=>?_) (λhb1=>?_)
 refine .bind λs1 q2=>?_
 replace q2 := cutT_ok q2
 refine .region λe h=>?_
 simp only [seval,EMT,und_9,q2,zP,and_true,true_and,dm,tm,hb1]
 cases h
 simp only [seval,FMT,hb1]
 refine .region λe h=>?_
 simp only [seval,EMT,und_9,hb1]
 cases h
 simp only [seval,FMT,hb1]
 intro v1
 refine Mir.toK (.ret λe h=>?_)
 cases h
 simp only [seval,FMT,Tryz.results170]
def stringslite_CutPrefix (a0 : (List UInt8)) (a1 : (List UInt8)) : Option ((List UInt8) × Bool) := bindO (stringslite_HasPrefix a0 a1) λ(y1 : Bool)=>if (!y1) = true then some (a0,false) else bindO (cutF a0 (a1.length : Int)) λ(s1 : (List UInt8))=>some (s1,true)
theorem stringslite_CutPrefix_spec {a0 : (List UInt8)} {a1 : (List UInt8)} {y : (List UInt8) × Bool} (h : stringslite_CutPrefix a0 a1 = some y) : Spec gP 163 [.d (.str a0),.d (.str a1)] (.tuple [.d (.str y.1),.d (.bool y.2)]) := by
 refine spec_mir Tryz.func163 rfl (by kernel_rfl) (by kernel_rfl) (λy : (List UInt8) × Bool=>.tuple [.d (.str y.1),.d (.bool y.2)]) ?_ h
 unfold stringslite_CutPrefix
 simp only [zI,zK,nS,nA,Tryz.ntmps163,SV]
 refine .sR λe h=>?_
 simp only [seval,EMT]
 refine mU e (.seqK (.seqK (.bind λy1 hy1=>.region λe h=>?_))) h
 simp only [seval,EMT]
 refine SpecS.by (stringslite_HasPrefix_spec hy1) (by simp only [seval,FMT]) ?_
 simp only [seval,EMT]
 refine mU e (.cond rfl (λhb3=>?_) (λhb3=>?_)) h
 refine .sR λe h=>?_
 simp only [seval,EMT]
 refine mU e (.ret λe h=>?_) h
 cases h
 simp only [seval,FMT,Tryz.results163]
 refine .skip (Mir.toK (.seqK (.bind λs1 q4=>?_)))
 replace q4 := cutF_ok q4
 refine .region λe h=>?_
 simp only [seval,EMT,und_9,q4,zP,and_true,true_and,dm,tm]
 refine mU e (.ret λe h=>?_) h
 cases h
 simp only [seval,FMT,Tryz.results163]
def strings_CutPrefix (a0 : (List UInt8)) (a1 : (List UInt8)) : Option ((List UInt8) × Bool) := bindO (stringslite_CutPrefix a0 a1) λ(y1 : (List UInt8) × Bool)=>some (y1.1,y1.2)
theorem strings_CutPrefix_spec {a0 : (List UInt8)} {a1 : (List UInt8)} {y : (List UInt8) × Bool} (h : strings_CutPrefix a0 a1 = some y) : Spec gP 140 [.d (.str a0),.d (.str a1)] (.tuple [.d (.str y.1),.d (.bool y.2)]) := by
 refine spec_mir Tryz.func140 rfl (by kernel_rfl) (by kernel_rfl) (λy : (List UInt8) × Bool=>.tuple [.d (.str y.1),.d (.bool y.2)]) ?_ h
 unfold strings_CutPrefix
 simp only [zI,zK,nS,nA,Tryz.ntmps140,SV]
 refine .sR λe h=>?_
 simp only [seval,EMT]
 refine mU e (.seqK (.bind λy1 hy1=>.region λe h=>?_)) h
 simp only [seval,EMT]
 refine SpecS.by (stringslite_CutPrefix_spec hy1) (by simp only [seval,FMT]) ?_
 simp only [seval,EMT]
 refine mU e (.ret λe h=>?_) h
 cases h
 simp only [seval,FMT,Tryz.results140]
def stringslite_Index (a0 : (List UInt8)) (a1 : (List UInt8)) : Option Int := if (((a1.length : Int) == 0) || (a1 == a0)) = true then some 0 else if ((a1.length : Int) == 1) = true then bindO (gt a1 0) λ(c1 : UInt8)=>bindO (stringslite_IndexByte a0 (c1.toNat : Int)) λ(y1 : Int)=>some y1 else if (decide ((a1.length : Int) ≥ (a0.length : Int))) = true then some (-1) else none
theorem stringslite_Index_spec {a0 : (List UInt8)} {a1 : (List UInt8)} {y : Int} (h : stringslite_Index a0 a1 = some y) : Spec gP 77 [.d (.str a0),.d (.str a1)] (.d (.int .i64 y)) := by
 refine spec_mir Tryz.func77 rfl (by kernel_rfl) (by kernel_rfl) (λy : Int=>.d (.int .i64 y)) ?_ h
 unfold stringslite_Index
 simp only [zI,zK,nS,nA,Tryz.ntmps77,SV]
 refine .sR λe h=>?_
 simp only [seval,EMT]
 refine mU e (.sR λe h=>?_) h
 simp only [seval,EMT,und_9]
 refine mU e (.seqK (.block (.seqK (.joinV ([.d (.str a0),.d (.str a1),U,U,U,.d (.int .i64 (a1.length : Int)),U,U,U,U,U,U,U,U,U,U,.d (.bool (((a1.length : Int) == 0) || (a1 == a0)))] ++ us 126) ⟨[],[]⟩ rfl ?_ ?_)))) h
 refine SWs.region ?_
 rcases zH ((a1.length : Int) == 0) with hb7 | hb7
 simp only [seval,EMT,SL,PB,hb7]
 simp only [seval,EMT,SL,PB,hb7]
 refine Mir.toK (.cond rfl (λhb13=>?_) (λhb13=>?_))
 refine .sR λe h=>?_
 simp only [seval,EMT]
 refine mU e (.ret λe h=>?_) h
 cases h
 simp only [seval,FMT,Tryz.results77]
 refine .sR λe h=>?_
 simp only [seval,EMT]
 refine mU e (.cond rfl (λhb18=>?_) (λhb18=>?_)) h
 refine .seqK (.bind λc1 q19=>?_)
 replace q19 := gt_ok q19
 simp only [zL,zN,zO,dp0] at q19
 refine .bind λy1 hy20=>.region λe h=>?_
 simp only [seval,EMT,und_9,q19]
 refine SpecS.by (stringslite_IndexByte_spec hy20) (by simp only [seval,FMT]) ?_
 simp only [seval,EMT]
 refine mU e (.ret λe h=>?_) h
 cases h
 simp only [seval,FMT,Tryz.results77]
 refine .sR λe h=>?_
 simp only [seval,EMT,und_9]
 refine mU e (.cond rfl (λhb22=>?_) (λhb22=>?_)) h
 refine .sR λe h=>?_
 simp only [seval,EMT]
 refine mU e (.ret λe h=>?_) h
 cases h
 simp only [seval,FMT,Tryz.results77]
 exact Mir.no
def stringslite_Cut (a0 : (List UInt8)) (a1 : (List UInt8)) : Option ((List UInt8) × (List UInt8) × Bool) := bindO (stringslite_Index a0 a1) λ(y1 : Int)=>if (decide (y1 ≥ 0)) = true then bindO (cutT a0 y1) λ(s1 : (List UInt8))=>bindO (cutF a0 (zS.wrap (y1 + (a1.length : Int)))) λ(s2 : (List UInt8))=>some (s1,s2,true) else some (a0,[],false)
theorem stringslite_Cut_spec {a0 : (List UInt8)} {a1 : (List UInt8)} {y : (List UInt8) × (List UInt8) × Bool} (h : stringslite_Cut a0 a1 = some y) : Spec gP 47 [.d (.str a0),.d (.str a1)] (.tuple [.d (.str y.1),.d (.str y.2.1),.d (.bool y.2.2)]) := by
 refine spec_mir Tryz.func47 rfl (by kernel_rfl) (by kernel_rfl) (λy : (List UInt8) × (List UInt8) × Bool=>.tuple [.d (.str y.1),.d (.str y.2.1),.d (.bool y.2.2)]) ?_ h
 unfold stringslite_Cut
 simp only [zI,zK,nS,nA,Tryz.ntmps47,SV]
 refine .sR λe h=>?_
 simp only [seval,EMT]
 refine mU e (.seqK (.seqK (.bind λy1 hy1=>.region λe h=>?_))) h
 simp only [seval,EMT]
 refine SpecS.by (stringslite_Index_spec hy1) (by simp only [seval,FMT]) ?_
 simp only [seval,EMT]
 refine mU e (.sR λe h=>?_) h
 simp only [seval,EMT]
 refine mU e (.cond rfl (λhb5=>?_) (λhb5=>?_)) h
 refine .seqK (.bind λs1 q6=>?_)
 replace q6 := cutT_ok q6
 refine .bind λs2 q7=>?_
 replace q7 := cutF_ok q7
 refine .regionD [] (by kernel_rfl) λe h=>?_
 simp only [seval,EMT,SB,und_9,q6,zP,and_true,true_and,dm,tm,q7]
 refine mU e (.ret λe h=>?_) h
 cases h
 simp only [seval,FMT,Tryz.results47]
 refine .skip (Mir.toK (.sR λe h=>?_))
 simp only [seval,EMT]
 refine mU e (.ret λe h=>?_) h
 cases h
 simp only [seval,FMT,Tryz.results47]
def strings_Cut (a0 : (List UInt8)) (a1 : (List UInt8)) : Option ((List UInt8) × (List UInt8) × Bool) := bindO (stringslite_Cut a0 a1) λ(y1 : (List UInt8) × (List UInt8) × Bool)=>some (y1.1,y1.2.1,y1.2.2)
theorem strings_Cut_spec {a0 : (List UInt8)} {a1 : (List UInt8)} {y : (List UInt8) × (List UInt8) × Bool} (h : strings_Cut a0 a1 = some y) : Spec gP 26 [.d (.str a0),.d (.str a1)] (.tuple [.d (.str y.1),.d (.str y.2.1),.d (.bool y.2.2)]) := by
 refine spec_mir Tryz.func26 rfl (by kernel_rfl) (by kernel_rfl) (λy : (List UInt8) × (List UInt8) × Bool=>.tuple [.d (.str y.1),.d (.str y.2.1),.d (.bool y.2.2)]) ?_ h
 unfold strings_Cut
 simp only [zI,zK,nS,nA,Tryz.ntmps26,SV]
 refine .sR λe h=>?_
 simp only [seval,EMT]
 refine mU e (.seqK (.bind λy1 hy1=>.region λe h=>?_)) h
 simp only [seval,EMT]
 refine SpecS.by (stringslite_Cut_spec hy1) (by simp only [seval,FMT]) ?_
 simp only [seval,EMT]
 refine mU e (.ret λe h=>?_) h
 cases h
 simp only [seval,FMT,Tryz.results26]
def dc_plain (a0 : (List UInt8)) : Option Bool := bindO (if (a0 == []) = true then some false else bindO (strings_Trim a0 [48,49,50,51,52,53,54,55,56,57]) λ(y1 : (List UInt8))=>some (y1 == [])) λ(v1 : Bool)=>some v1
theorem dc_plain_spec {a0 : (List UInt8)} {y : Bool} (h : dc_plain a0 = some y) : Spec gP 141 [.d (.str a0)] (.d (.bool y)) := by
 refine spec_mir Tryz.func141 rfl (by kernel_rfl) (by kernel_rfl) (λy : Bool=>.d (.bool y)) ?_ h
 unfold dc_plain
 simp only [zI,zK,nS,nA,Tryz.ntmps141,SV]
 refine .sR λe h=>?_
 simp only [seval,EMT]
 refine mU e (.seqK (Mir.joinO (λv1 : Bool=>([U,U,.d (.bool v1)] ++ us 7)) (λv1=>⟨[],[]⟩) (λ_=>rfl) ?_ ?_)) h
 refine .ite (λhb1=>?_) (λhb1=>?_)
 refine .region λe h=>?_
 simp only [seval,EMT,hb1]
 cases h
 simp only [seval,FMT,hb1]
 refine .bind λy1 hy2=>.region λe h=>?_
 simp only [seval,EMT,hb1]
 refine SpecS.by (strings_Trim_spec hy2) (by simp only [seval,FMT,hb1]) ?_
 simp only [seval,EMT,hb1]
 cases h
 simp only [seval,FMT,hb1]
 intro v1
 refine Mir.toK (.ret λe h=>?_)
 cases h
 simp only [seval,FMT,Tryz.results141]
def dc_digits (a0 : (List UInt8)) : Option ((List UInt8) × Int × Bool) := if (decide ((a0.length : Int) > 65536)) = true then some ([],0,false) else bindO (strings_CutPrefix a0 [45]) λ(y1 : (List UInt8) × Bool)=>bindO (strings_Cut y1.1 [46]) λ(y2 : (List UInt8) × (List UInt8) × Bool)=>bindO (bindO (dc_plain y2.1) λ(y3 : Bool)=>if y3 = true then if (decide ((y2.1.length : Int) > 1)) = true then bindO (gt y2.1 0) λ(c1 : UInt8)=>if ((c1.toNat : Int) == 48) = true then some true else if y2.2.2 = true then bindO (dc_plain y2.2.1) λ(y4 : Bool)=>if y4 = true then some (decide ((y2.2.1.length : Int) > 30)) else some true else some false else if y2.2.2 = true then bindO (dc_plain y2.2.1) λ(y5 : Bool)=>if y5 = true then some (decide ((y2.2.1.length : Int) > 30)) else some true else some false else some true) λ(v1 : Bool)=>if v1 = true then some ([],0,false) else guardO (okStr y2.1 y2.2.1) ( bindO (strings_TrimLeft (y2.1 ++ y2.2.1) [48]) λ(y6 : (List UInt8))=>if (y6 == []) = true then some ([48],(y2.2.1.length : Int),!y1.2) else bindO (if y1.2 = true then guardO (okStr [45] y6) ( some ([45] ++ y6)) else some y6) λ(v2 : (List UInt8))=>some (v2,(y2.2.1.length : Int),true))
theorem dc_digits_spec {a0 : (List UInt8)} {y : (List UInt8) × Int × Bool} (h : dc_digits a0 = some y) : Spec gP 109 [.d (.str a0)] (.tuple [.d (.str y.1),.d (.int .i64 y.2.1),.d (.bool y.2.2)]) := by
 refine spec_mir Tryz.func109 rfl (by kernel_rfl) (by kernel_rfl) (λy : (List UInt8) × Int × Bool=>.tuple [.d (.str y.1),.d (.int .i64 y.2.1),.d (.bool y.2.2)]) ?_ h
 unfold dc_digits
 simp only [zI,zK,nS,nA,Tryz.ntmps109,SV]
 refine .sR λe h=>?_
 simp only [seval,EMT]
 refine mU e (.seqK (.sR λe h=>?_)) h
 simp only [seval,EMT,und_9]
 refine mU e (.cond rfl (λhb2=>?_) (λhb2=>?_)) h
 refine .sR λe h=>?_
 simp only [seval,EMT]
 refine mU e (.ret λe h=>?_) h
 cases h
 simp only [seval,FMT,Tryz.results109]
 refine .skip (Mir.toK (.seqK (.bind λy1 hy3=>.region λe h=>?_)))
 simp only [seval,EMT]
 refine SpecS.by (strings_CutPrefix_spec hy3) (by simp only [seval,FMT]) ?_
 simp only [seval,EMT]
 refine mU e (.seqK (.bind λy2 hy4=>.region λe h=>?_)) h
 simp only [seval,EMT]
 refine SpecS.by (strings_Cut_spec hy4) (by simp only [seval,FMT]) ?_
 simp only [seval,EMT]
 refine mU e (.seqK (.seqK (Mir.joinO (λv1 : Bool=>([U,U,U,U,U,U,.d (.bool y1.2),.d (.str y2.1),.d (.str y2.2.1),U,U,U,U,U,U,U,U,U,U,U,U,U,U,U,U,U,U,U,U,U,U,U,U,U,U,U,U,U,U,U,U,U,U,U,U,U,U,U,U,U,.d (.bool v1)] ++ us 16)) (λv1=>⟨[],[]⟩) (λ_=>rfl) ?_ ?_))) h
 refine .bind λy3 hy5=>.ite (λhb6=>?_) (λhb6=>?_)
 refine .ite (λhb7=>?_) (λhb7=>?_)
 refine .bind λc1 q8=>?_
 replace q8 := gt_ok q8
 simp only [zL,zN,zO,dp0] at q8
 refine .ite (λhb9=>?_) (λhb9=>?_)
 refine .region λe h=>?_
 simp only [seval,EMT,hb6,hb7,hb9]
 refine SpecS.by (dc_plain_spec hy5) (by simp only [seval,FMT,hb6,hb7,hb9]) ?_
 simp only [seval,EMT,und_9,q8,hb6,hb7,hb9]
 cases h
 simp only [seval,FMT,hb6,hb7,hb9]
 refine .ite (λhb10=>?_) (λhb10=>?_)
 refine .bind λy4 hy11=>.ite (λhb12=>?_) (λhb12=>?_)
 refine .region λe h=>?_
 simp only [seval,EMT,hb6,hb7,hb9,hb10,hb12]
 refine SpecS.by (dc_plain_spec hy5) (by simp only [seval,FMT,hb6,hb7,hb9,hb10,hb12]) ?_
 simp only [seval,EMT,und_9,q8,hb6,hb7,hb9,hb10,hb12]
 refine SpecS.by (dc_plain_spec hy11) (by simp only [seval,FMT,hb6,hb7,hb9,hb10,hb12]) ?_
 simp only [seval,EMT,und_9,hb6,hb7,hb9,hb10,hb12]
 cases h
 simp only [seval,FMT,hb6,hb7,hb9,hb10,hb12]
 refine .region λe h=>?_
 simp only [seval,EMT,hb6,hb7,hb9,hb10,hb12]
 refine SpecS.by (dc_plain_spec hy5) (by simp only [seval,FMT,hb6,hb7,hb9,hb10,hb12]) ?_
 simp only [seval,EMT,und_9,q8,hb6,hb7,hb9,hb10,hb12]
 refine SpecS.by (dc_plain_spec hy11) (by simp only [seval,FMT,hb6,hb7,hb9,hb10,hb12]) ?_
 simp only [seval,EMT,hb6,hb7,hb9,hb10,hb12]
 cases h
 simp only [seval,FMT,hb6,hb7,hb9,hb10,hb12]
 refine .region λe h=>?_
 simp only [seval,EMT,hb6,hb7,hb9,hb10]
 refine SpecS.by (dc_plain_spec hy5) (by simp only [seval,FMT,hb6,hb7,hb9,hb10]) ?_
 simp only [seval,EMT,und_9,q8,hb6,hb7,hb9,hb10]
 cases h
 simp only [seval,FMT,hb6,hb7,hb9,hb10]
 refine .ite (λhb13=>?_) (λhb13=>?_)
 refine .bind λy5 hy14=>.ite (λhb15=>?_) (λhb15=>?_)
 refine .region λe h=>?_
 simp only [seval,EMT,hb6,hb7,hb13,hb15]
 refine SpecS.by (dc_plain_spec hy5) (by simp only [seval,FMT,hb6,hb7,hb13,hb15]) ?_
 simp only [seval,EMT,und_9,hb6,hb7,hb13,hb15]
 refine SpecS.by (dc_plain_spec hy14) (by simp only [seval,FMT,hb6,hb7,hb13,hb15]) ?_
 simp only [seval,EMT,und_9,hb6,hb7,hb13,hb15]
 cases h
 simp only [seval,FMT,hb6,hb7,hb13,hb15]
 refine .region λe h=>?_
 simp only [seval,EMT,hb6,hb7,hb13,hb15]
 refine SpecS.by (dc_plain_spec hy5) (by simp only [seval,FMT,hb6,hb7,hb13,hb15]) ?_
 simp only [seval,EMT,und_9,hb6,hb7,hb13,hb15]
 refine SpecS.by (dc_plain_spec hy14) (by simp only [seval,FMT,hb6,hb7,hb13,hb15]) ?_
 simp only [seval,EMT,hb6,hb7,hb13,hb15]
 cases h
 simp only [seval,FMT,hb6,hb7,hb13,hb15]
 refine .region λe h=>?_
 simp only [seval,EMT,hb6,hb7,hb13]
 refine SpecS.by (dc_plain_spec hy5) (by simp only [seval,FMT,hb6,hb7,hb13]) ?_
 simp only [seval,EMT,und_9,hb6,hb7,hb13]
 cases h
 simp only [seval,FMT,hb6,hb7,hb13]
 refine .region λe h=>?_
 simp only [seval,EMT,hb6]
 refine SpecS.by (dc_plain_spec hy5) (by simp only [seval,FMT,hb6]) ?_
 simp only [seval,EMT,hb6]
 cases h
 simp only [seval,FMT,hb6]
 intro v1
 refine Mir.toK (.cond rfl (λhb17=>?_) (λhb17=>?_))
 refine .sR λe h=>?_
 simp only [seval,EMT]
 refine mU e (.ret λe h=>?_) h
 cases h
 simp only [seval,FMT,Tryz.results109]
 refine .skip (Mir.toK (.seqK (.guard λq18=>?_)))
 replace q18 := okStr_ok q18
 refine .bind λy6 hy19=>.region λe h=>?_
 simp only [seval,EMT,q18]
 refine SpecS.by (strings_TrimLeft_spec hy19) (by simp only [seval,FMT]) ?_
 simp only [seval,EMT]
 refine mU e (.seqK (.sR λe h=>?_)) h
 simp only [seval,EMT]
 refine mU e (.cond rfl (λhb21=>?_) (λhb21=>?_)) h
 refine .sR λe h=>?_
 simp only [seval,EMT,und_9]
 refine mU e (.ret λe h=>?_) h
 cases h
 simp only [seval,FMT,Tryz.results109]
 refine .skip (Mir.toK (.seqK (.sR λe h=>?_)))
 simp only [seval,EMT]
 refine mU e (Mir.joinO (λv2 : (List UInt8)=>([U,U,U,U,U,U,U,U,.d (.str y2.2.1),U,.d (.str v2)] ++ us 56)) (λv2=>⟨[],[]⟩) (λ_=>rfl) ?_ ?_) h
 refine .cond rfl (λhb24=>?_) (λhb24=>?_)
 refine .guard λq25=>?_
 replace q25 := okStr_ok q25
 try simp only [lm,xNA,xCA,xAN,xLC,xLN,xAC,xAL,nA,zQ] at q25
 refine .region λe h=>?_
 simp only [seval,EMT,q25]
 cases h
 simp only [seval,FMT,Tryz.results109]
 refine .skip λe h=>?_
 cases h
 simp only [seval,FMT,Tryz.results109]
 intro v2
 refine Mir.toK (.sR λe h=>?_)
 simp only [seval,EMT,und_9]
 refine mU e (.ret λe h=>?_) h
 cases h
 simp only [seval,FMT,Tryz.results109]
def bits_Mul64 (a0 : Int) (a1 : Int) : Option (Int × Int) := some (zV.wrap ((zV.wrap ((zV.wrap ((shrI .u64 a0 32) * (shrI .u64 a1 32))) + (shrI .u64 (zV.wrap ((zV.wrap ((shrI .u64 a0 32) * (andI .u64 a1 4294967295))) + (shrI .u64 (zV.wrap ((andI .u64 a0 4294967295) * (andI .u64 a1 4294967295))) 32))) 32))) + (shrI .u64 (zV.wrap ((andI .u64 (zV.wrap ((zV.wrap ((shrI .u64 a0 32) * (andI .u64 a1 4294967295))) + (shrI .u64 (zV.wrap ((andI .u64 a0 4294967295) * (andI .u64 a1 4294967295))) 32))) 4294967295) + (zV.wrap ((andI .u64 a0 4294967295) * (shrI .u64 a1 32))))) 32)),zV.wrap (a0 * a1))
theorem bits_Mul64_spec {a0 : Int} {a1 : Int} {y : Int × Int} (h : bits_Mul64 a0 a1 = some y) : Spec gP 169 [.d (.int .u64 a0),.d (.int .u64 a1)] (.tuple [.d (.int .u64 y.1),.d (.int .u64 y.2)]) := by
 refine spec_mir Tryz.func169 rfl (by kernel_rfl) (by kernel_rfl) (λy : Int × Int=>.tuple [.d (.int .u64 y.1),.d (.int .u64 y.2)]) ?_ h
 unfold bits_Mul64
 simp only [zI,zK,nS,nA,Tryz.ntmps169,SV]
 refine .sR λe h=>?_
 simp only [seval,EMT]
 refine mU e (.sR λe h=>?_) h
 simp only [seval,EMT]
 refine mU e (.sR λe h=>?_) h
 simp only [seval,EMT]
 refine mU e (.sR λe h=>?_) h
 simp only [seval,EMT]
 refine mU e (.sR λe h=>?_) h
 simp only [seval,EMT]
 refine mU e (.sR λe h=>?_) h
 simp only [seval,EMT]
 refine mU e (.sR λe h=>?_) h
 simp only [seval,EMT]
 refine mU e (.sR λe h=>?_) h
 simp only [seval,EMT]
 refine mU e (.sR λe h=>?_) h
 simp only [seval,EMT]
 refine mU e (.sR λe h=>?_) h
 simp only [seval,EMT]
 refine mU e (.sR λe h=>?_) h
 simp only [seval,EMT]
 refine mU e (.sR λe h=>?_) h
 simp only [seval,EMT]
 refine mU e (.ret λe h=>?_) h
 cases h
 simp only [seval,FMT,Tryz.results169]
def bits_Mul (a0 : Int) (a1 : Int) : Option (Int × Int) := bindO (bits_Mul64 a0 a1) λ(y1 : Int × Int)=>some (y1.1,y1.2)
theorem bits_Mul_spec {a0 : Int} {a1 : Int} {y : Int × Int} (h : bits_Mul a0 a1 = some y) : Spec gP 143 [.d (.int .u64 a0),.d (.int .u64 a1)] (.tuple [.d (.int .u64 y.1),.d (.int .u64 y.2)]) := by
 refine spec_mir Tryz.func143 rfl (by kernel_rfl) (by kernel_rfl) (λy : Int × Int=>.tuple [.d (.int .u64 y.1),.d (.int .u64 y.2)]) ?_ h
 unfold bits_Mul
 simp only [zI,zK,nS,nA,Tryz.ntmps143,SV]
 refine .sR λe h=>?_
 simp only [seval,EMT]
 refine mU e (.seqK (.condF rfl (.skip (Mir.toK (.seqK (.bind λy1 hy1=>.region λe h=>?_)))))) h
 simp only [seval,EMT]
 refine SpecS.by (bits_Mul64_spec hy1) (by simp only [seval,FMT]) ?_
 simp only [seval,EMT]
 refine mU e (.sR λe h=>?_) h
 simp only [seval,EMT]
 refine mU e (.ret λe h=>?_) h
 cases h
 simp only [seval,FMT,Tryz.results143]
def strings_HasPrefix (a0 : (List UInt8)) (a1 : (List UInt8)) : Option Bool := bindO (stringslite_HasPrefix a0 a1) λ(y1 : Bool)=>some y1
theorem strings_HasPrefix_spec {a0 : (List UInt8)} {a1 : (List UInt8)} {y : Bool} (h : strings_HasPrefix a0 a1 = some y) : Spec gP 144 [.d (.str a0),.d (.str a1)] (.d (.bool y)) := by
 refine spec_mir Tryz.func144 rfl (by kernel_rfl) (by kernel_rfl) (λy : Bool=>.d (.bool y)) ?_ h
 unfold strings_HasPrefix
 simp only [zI,zK,nS,nA,Tryz.ntmps144,SV]
 refine .sR λe h=>?_
 simp only [seval,EMT]
 refine mU e (.seqK (.bind λy1 hy1=>.region λe h=>?_)) h
 simp only [seval,EMT]
 refine SpecS.by (stringslite_HasPrefix_spec hy1) (by simp only [seval,FMT]) ?_
 simp only [seval,EMT]
 refine mU e (.ret λe h=>?_) h
 cases h
 simp only [seval,FMT,Tryz.results144]
def strings_Repeat (a0 : (List UInt8)) (a1 : Int) : Option (List UInt8) := if (a1 == 0) = true then some [] else if (a1 == 1) = true then some a0 else if (decide (a1 < 0)) = true then none else bindO (bits_Mul (zV.wrap (a0.length : Int)) (zV.wrap a1)) λ(y1 : Int × Int)=>if ((decide (y1.1 > 0)) || (decide (y1.2 > 9223372036854775807))) = true then none else if ((a0.length : Int) == 0) = true then some [] else bindO (gt a0 0) λ(c1 : UInt8)=>bindX (bindO (if ((c1.toNat : Int) == 32) = true then some ((c1.toNat : Int) == 32) else if ((c1.toNat : Int) == 45) = true then some ((c1.toNat : Int) == 45) else if ((c1.toNat : Int) == 48) = true then some ((c1.toNat : Int) == 48) else if ((c1.toNat : Int) == 61) = true then some ((c1.toNat : Int) == 61) else some ((c1.toNat : Int) == 9)) λ(v1 : Bool)=>if v1 = true then bindO (if (decide ((zS.wrap y1.2) ≤ 128)) = true then bindO (strings_HasPrefix [32,32,32,32,32,32,32,32,32,32,32,32,32,32,32,32,32,32,32,32,32,32,32,32,32,32,32,32,32,32,32,32,32,32,32,32,32,32,32,32,32,32,32,32,32,32,32,32,32,32,32,32,32,32,32,32,32,32,32,32,32,32,32,32,32,32,32,32,32,32,32,32,32,32,32,32,32,32,32,32,32,32,32,32,32,32,32,32,32,32,32,32,32,32,32,32,32,32,32,32,32,32,32,32,32,32,32,32,32,32,32,32,32,32,32,32,32,32,32,32,32,32,32,32,32,32,32,32] a0) λ(y2 : Bool)=>some y2 else some false) λ(v2 : Bool)=>if v2 = true then bindO (cutT [32,32,32,32,32,32,32,32,32,32,32,32,32,32,32,32,32,32,32,32,32,32,32,32,32,32,32,32,32,32,32,32,32,32,32,32,32,32,32,32,32,32,32,32,32,32,32,32,32,32,32,32,32,32,32,32,32,32,32,32,32,32,32,32,32,32,32,32,32,32,32,32,32,32,32,32,32,32,32,32,32,32,32,32,32,32,32,32,32,32,32,32,32,32,32,32,32,32,32,32,32,32,32,32,32,32,32,32,32,32,32,32,32,32,32,32,32,32,32,32,32,32,32,32,32,32,32,32] (zS.wrap y1.2)) λ(s1 : (List UInt8))=>some (.ret s1) else bindO (if (decide ((zS.wrap y1.2) ≤ 128)) = true then bindO (strings_HasPrefix [45,45,45,45,45,45,45,45,45,45,45,45,45,45,45,45,45,45,45,45,45,45,45,45,45,45,45,45,45,45,45,45,45,45,45,45,45,45,45,45,45,45,45,45,45,45,45,45,45,45,45,45,45,45,45,45,45,45,45,45,45,45,45,45,45,45,45,45,45,45,45,45,45,45,45,45,45,45,45,45,45,45,45,45,45,45,45,45,45,45,45,45,45,45,45,45,45,45,45,45,45,45,45,45,45,45,45,45,45,45,45,45,45,45,45,45,45,45,45,45,45,45,45,45,45,45,45,45] a0) λ(y3 : Bool)=>some y3 else some false) λ(v3 : Bool)=>if v3 = true then bindO (cutT [45,45,45,45,45,45,45,45,45,45,45,45,45,45,45,45,45,45,45,45,45,45,45,45,45,45,45,45,45,45,45,45,45,45,45,45,45,45,45,45,45,45,45,45,45,45,45,45,45,45,45,45,45,45,45,45,45,45,45,45,45,45,45,45,45,45,45,45,45,45,45,45,45,45,45,45,45,45,45,45,45,45,45,45,45,45,45,45,45,45,45,45,45,45,45,45,45,45,45,45,45,45,45,45,45,45,45,45,45,45,45,45,45,45,45,45,45,45,45,45,45,45,45,45,45,45,45,45] (zS.wrap y1.2)) λ(s2 : (List UInt8))=>some (.ret s2) else bindO (if (decide ((zS.wrap y1.2) ≤ 64)) = true then bindO (strings_HasPrefix [48,48,48,48,48,48,48,48,48,48,48,48,48,48,48,48,48,48,48,48,48,48,48,48,48,48,48,48,48,48,48,48,48,48,48,48,48,48,48,48,48,48,48,48,48,48,48,48,48,48,48,48,48,48,48,48,48,48,48,48,48,48,48,48] a0) λ(y4 : Bool)=>some y4 else some false) λ(v4 : Bool)=>if v4 = true then bindO (cutT [48,48,48,48,48,48,48,48,48,48,48,48,48,48,48,48,48,48,48,48,48,48,48,48,48,48,48,48,48,48,48,48,48,48,48,48,48,48,48,48,48,48,48,48,48,48,48,48,48,48,48,48,48,48,48,48,48,48,48,48,48,48,48,48] (zS.wrap y1.2)) λ(s3 : (List UInt8))=>some (.ret s3) else bindO (if (decide ((zS.wrap y1.2) ≤ 128)) = true then bindO (strings_HasPrefix [61,61,61,61,61,61,61,61,61,61,61,61,61,61,61,61,61,61,61,61,61,61,61,61,61,61,61,61,61,61,61,61,61,61,61,61,61,61,61,61,61,61,61,61,61,61,61,61,61,61,61,61,61,61,61,61,61,61,61,61,61,61,61,61,61,61,61,61,61,61,61,61,61,61,61,61,61,61,61,61,61,61,61,61,61,61,61,61,61,61,61,61,61,61,61,61,61,61,61,61,61,61,61,61,61,61,61,61,61,61,61,61,61,61,61,61,61,61,61,61,61,61,61,61,61,61,61,61] a0) λ(y5 : Bool)=>some y5 else some false) λ(v5 : Bool)=>if v5 = true then bindO (cutT [61,61,61,61,61,61,61,61,61,61,61,61,61,61,61,61,61,61,61,61,61,61,61,61,61,61,61,61,61,61,61,61,61,61,61,61,61,61,61,61,61,61,61,61,61,61,61,61,61,61,61,61,61,61,61,61,61,61,61,61,61,61,61,61,61,61,61,61,61,61,61,61,61,61,61,61,61,61,61,61,61,61,61,61,61,61,61,61,61,61,61,61,61,61,61,61,61,61,61,61,61,61,61,61,61,61,61,61,61,61,61,61,61,61,61,61,61,61,61,61,61,61,61,61,61,61,61,61] (zS.wrap y1.2)) λ(s4 : (List UInt8))=>some (.ret s4) else bindO (if (decide ((zS.wrap y1.2) ≤ 64)) = true then bindO (strings_HasPrefix [9,9,9,9,9,9,9,9,9,9,9,9,9,9,9,9,9,9,9,9,9,9,9,9,9,9,9,9,9,9,9,9,9,9,9,9,9,9,9,9,9,9,9,9,9,9,9,9,9,9,9,9,9,9,9,9,9,9,9,9,9,9,9,9] a0) λ(y6 : Bool)=>some y6 else some false) λ(v6 : Bool)=>if v6 = true then bindO (cutT [9,9,9,9,9,9,9,9,9,9,9,9,9,9,9,9,9,9,9,9,9,9,9,9,9,9,9,9,9,9,9,9,9,9,9,9,9,9,9,9,9,9,9,9,9,9,9,9,9,9,9,9,9,9,9,9,9,9,9,9,9,9,9,9] (zS.wrap y1.2)) λ(s5 : (List UInt8))=>some (.ret s5) else some (.go ()) else some (.go ())) λ(v7 : Unit)=>if (decide ((zS.wrap y1.2) > 8192)) = true then guardO (!((a0.length : Int) == 0)) ( if ((zS.wrap ((zS.wrap (zC 8192 (a0.length : Int))) * (a0.length : Int))) == 0) = true then none else none) else none
theorem strings_Repeat_spec {a0 : (List UInt8)} {a1 : Int} {y : (List UInt8)} (h : strings_Repeat a0 a1 = some y) : Spec gP 110 [.d (.str a0),.d (.int .i64 a1)] (.d (.str y)) := by
 refine spec_mir Tryz.func110 rfl (by kernel_rfl) (by kernel_rfl) (λy : (List UInt8)=>.d (.str y)) ?_ h
 unfold strings_Repeat
 simp only [zI,zK,nS,nA,Tryz.ntmps110,SV]
 refine .sR λe h=>?_
 simp only [seval,EMT,zF,zD,zE]
 refine mU e (.seqK (.sR λe h=>?_)) h
 simp only [seval,EMT,zF,zD,zE]
 refine mU e (.block (.sR λe h=>?_)) h
 simp only [seval,EMT,zF,zD,zE]
 refine mU e (.cond rfl (λhb5=>?_) (λhb5=>?_)) h
 refine .sR λe h=>?_
 simp only [seval,EMT,zF,zD,zE]
 refine mU e (.ret λe h=>?_) h
 cases h
 simp only [seval,FMT,zF,zD,zE,Tryz.results110]
 refine .sR λe h=>?_
 simp only [seval,EMT,zF,zD,zE]
 refine mU e (.cond rfl (λhb7=>?_) (λhb7=>?_)) h
 refine .sR λe h=>?_
 simp only [seval,EMT,zF,zD,zE]
 refine mU e (.ret λe h=>?_) h
 cases h
 simp only [seval,FMT,zF,zD,zE,Tryz.results110]
 refine .skip (Mir.toB (Mir.toK (.seqK (.sR λe h=>?_))))
 simp only [seval,EMT,zF,zD,zE]
 refine mU e (.cond rfl (λhb9=>?_) (λhb9=>?_)) h
 exact Mir.no
 refine .skip (Mir.toK (.seqK (.bind λy1 hy10=>.region λe h=>?_)))
 simp only [seval,EMT,und_9,und_3,und_147,zF,zD,zE]
 refine SpecS.by (bits_Mul_spec hy10) (by simp only [seval,FMT,zF,zD,zE]) ?_
 simp only [seval,EMT,zF,zD,zE]
 refine mU e (.seqK (.seqK (.joinV ([.d (.str a0),U,U,U,U,U,.d (.int .u64 y1.2),U,U,U,U,U,U,U,U,U,U,U,U,U,U,U,U,U,U,U,U,U,U,U,U,U,U,U,.d (.bool ((decide (y1.1 > 0)) || (decide (y1.2 > 9223372036854775807))))] ++ us 90) ⟨[],[]⟩ rfl ?_ ?_))) h
 refine SWs.region ?_
 rcases zH (decide (y1.1 > 0)) with hb11 | hb11
 simp only [seval,EMT,SL,PB,hb11,zF,zD,zE]
 simp only [seval,EMT,SL,PB,hb11,zF,zD,zE]
 refine Mir.toK (.cond rfl (λhb13=>?_) (λhb13=>?_))
 exact Mir.no
 refine .skip (Mir.toK (.sR λe h=>?_))
 simp only [seval,EMT,und_147,und_3,zF,zD,zE]
 refine mU e (.seqK (.sR λe h=>?_)) h
 simp only [seval,EMT,und_9,zF,zD,zE]
 refine mU e (.cond rfl (λhb15=>?_) (λhb15=>?_)) h
 refine .sR λe h=>?_
 simp only [seval,EMT,zF,zD,zE]
 refine mU e (.ret λe h=>?_) h
 cases h
 simp only [seval,FMT,zF,zD,zE,Tryz.results110]
 refine .skip (Mir.toK (.seqK (.seqK (.bind λc1 q16=>?_))))
 replace q16 := gt_ok q16
 simp only [zL,zN,zO,dp0] at q16
 refine .region λe h=>?_
 simp only [seval,EMT,und_9,q16,zF,zD,zE]
 refine mU e (Mir.join (λv7 : Unit=>([.d (.str a0),U,U,U,U,U,U,.d (.int .i64 (zS.wrap y1.2))] ++ us 117)) (λv7=>⟨[],[]⟩) (λ_=>rfl) ?_ ?_) h
 refine .block (.seqK (.sR λe h=>?_))
 simp only [seval,EMT,zF,zD,zE]
 refine mU e (Mir.joinO (λv1 : Bool=>([.d (.str a0),U,U,U,U,U,U,.d (.int .i64 (zS.wrap y1.2)),U,U,U,U,U,U,U,U,U,U,U,U,U,U,U,U,U,U,U,U,U,U,U,U,U,U,U,U,U,U,U,U,U,U,U,.d (.bool v1)] ++ us 81)) (λv1=>⟨[],[]⟩) (λ_=>rfl) ?_ ?_) h
 refine .cond rfl (λhb50=>?_) (λhb50=>?_)
 refine .skip λe h=>?_
 cases h
 simp only [seval,FMT,zF,zD,zE,Tryz.results110]
 refine .sR λe h=>?_
 simp only [seval,EMT,zF,zD,zE]
 refine mU e (.cond rfl (λhb51=>?_) (λhb51=>?_)) h
 refine .skip λe h=>?_
 cases h
 simp only [seval,FMT,zF,zD,zE,Tryz.results110]
 refine .sR λe h=>?_
 simp only [seval,EMT,zF,zD,zE]
 refine mU e (.cond rfl (λhb52=>?_) (λhb52=>?_)) h
 refine .skip λe h=>?_
 cases h
 simp only [seval,FMT,zF,zD,zE,Tryz.results110]
 refine .sR λe h=>?_
 simp only [seval,EMT,zF,zD,zE]
 refine mU e (.cond rfl (λhb53=>?_) (λhb53=>?_)) h
 refine .skip λe h=>?_
 cases h
 simp only [seval,FMT,zF,zD,zE,Tryz.results110]
 refine .region λe h=>?_
 simp only [seval,EMT,zF,zD,zE]
 cases h
 simp only [seval,FMT,zF,zD,zE,Tryz.results110]
 intro v1
 refine Mir.toK (.cond rfl (λhb54=>?_) (λhb54=>?_))
 refine .block (.seqK (Mir.joinO (λv2 : Bool=>([.d (.str a0),U,U,U,U,U,U,.d (.int .i64 (zS.wrap y1.2)),U,U,U,U,U,U,U,U,U,U,U,U,U,U,U,U,U,U,U,U,U,U,U,U,U,U,U,U,U,U,U,U,U,U,U,U,U,U,U,U,U,.d (.bool v2)] ++ us 75)) (λv2=>⟨[],[]⟩) (λ_=>rfl) ?_ ?_))
 refine .ite (λhb55=>?_) (λhb55=>?_)
 refine .bind λy2 hy56=>.region λe h=>?_
 simp only [seval,EMT,zF,zD,zE,hb55]
 refine SpecS.by (strings_HasPrefix_spec hy56) (by simp only [seval,FMT,zF,zD,zE,hb55]) ?_
 simp only [seval,EMT,zF,zD,zE,hb55]
 cases h
 simp only [seval,FMT,zF,zD,zE,hb55]
 refine .region λe h=>?_
 simp only [seval,EMT,zF,zD,zE,hb55]
 cases h
 simp only [seval,FMT,zF,zD,zE,hb55]
 intro v2
 refine Mir.toK (.cond rfl (λhb57=>?_) (λhb57=>?_))
 refine .seqK (.bind λs1 q58=>?_)
 replace q58 := cutT_ok q58
 simp only [xLC,xLN,zQ,nA] at q58
 refine .region λe h=>?_
 simp only [seval,EMT,und_9,q58,zP,and_true,true_and,dm,tm,zF,zD,zE]
 refine mU e (.ret λe h=>?_) h
 cases h
 simp only [seval,FMT,zF,zD,zE,Tryz.results110]
 refine .seqK (Mir.joinO (λv3 : Bool=>([.d (.str a0),U,U,U,U,U,U,.d (.int .i64 (zS.wrap y1.2)),U,U,U,U,U,U,U,U,U,U,U,U,U,U,U,U,U,U,U,U,U,U,U,U,U,U,U,U,U,U,U,U,U,U,U,U,U,U,U,U,U,U,U,U,U,U,U,U,U,U,.d (.bool v3)] ++ us 66)) (λv3=>⟨[],[]⟩) (λ_=>rfl) ?_ ?_)
 refine .ite (λhb59=>?_) (λhb59=>?_)
 refine .bind λy3 hy60=>.region λe h=>?_
 simp only [seval,EMT,zF,zD,zE,hb59]
 refine SpecS.by (strings_HasPrefix_spec hy60) (by simp only [seval,FMT,zF,zD,zE,hb59]) ?_
 simp only [seval,EMT,zF,zD,zE,hb59]
 cases h
 simp only [seval,FMT,zF,zD,zE,hb59]
 refine .region λe h=>?_
 simp only [seval,EMT,zF,zD,zE,hb59]
 cases h
 simp only [seval,FMT,zF,zD,zE,hb59]
 intro v3
 refine Mir.toK (.cond rfl (λhb61=>?_) (λhb61=>?_))
 refine .seqK (.bind λs2 q62=>?_)
 replace q62 := cutT_ok q62
 simp only [xLC,xLN,zQ,nA] at q62
 refine .region λe h=>?_
 simp only [seval,EMT,und_9,q62,zP,and_true,true_and,dm,tm,zF,zD,zE]
 refine mU e (.ret λe h=>?_) h
 cases h
 simp only [seval,FMT,zF,zD,zE,Tryz.results110]
 refine .seqK (Mir.joinO (λv4 : Bool=>([.d (.str a0),U,U,U,U,U,U,.d (.int .i64 (zS.wrap y1.2)),U,U,U,U,U,U,U,U,U,U,U,U,U,U,U,U,U,U,U,U,U,U,U,U,U,U,U,U,U,U,U,U,U,U,U,U,U,U,U,U,U,U,U,U,U,U,U,U,U,U,U,U,U,U,U,U,U,U,U,.d (.bool v4)] ++ us 57)) (λv4=>⟨[],[]⟩) (λ_=>rfl) ?_ ?_)
 refine .ite (λhb63=>?_) (λhb63=>?_)
 refine .bind λy4 hy64=>.region λe h=>?_
 simp only [seval,EMT,zF,zD,zE,hb63]
 refine SpecS.by (strings_HasPrefix_spec hy64) (by simp only [seval,FMT,zF,zD,zE,hb63]) ?_
 simp only [seval,EMT,zF,zD,zE,hb63]
 cases h
 simp only [seval,FMT,zF,zD,zE,hb63]
 refine .region λe h=>?_
 simp only [seval,EMT,zF,zD,zE,hb63]
 cases h
 simp only [seval,FMT,zF,zD,zE,hb63]
 intro v4
 refine Mir.toK (.cond rfl (λhb65=>?_) (λhb65=>?_))
 refine .seqK (.bind λs3 q66=>?_)
 replace q66 := cutT_ok q66
 simp only [xLC,xLN,zQ,nA] at q66
 refine .region λe h=>?_
 simp only [seval,EMT,und_9,q66,zP,and_true,true_and,dm,tm,zF,zD,zE]
 refine mU e (.ret λe h=>?_) h
 cases h
 simp only [seval,FMT,zF,zD,zE,Tryz.results110]
 refine .seqK (Mir.joinO (λv5 : Bool=>([.d (.str a0),U,U,U,U,U,U,.d (.int .i64 (zS.wrap y1.2)),U,U,U,U,U,U,U,U,U,U,U,U,U,U,U,U,U,U,U,U,U,U,U,U,U,U,U,U,U,U,U,U,U,U,U,U,U,U,U,U,U,U,U,U,U,U,U,U,U,U,U,U,U,U,U,U,U,U,U,U,U,U,U,U,U,U,U,U,.d (.bool v5)] ++ us 48)) (λv5=>⟨[],[]⟩) (λ_=>rfl) ?_ ?_)
 refine .ite (λhb67=>?_) (λhb67=>?_)
 refine .bind λy5 hy68=>.region λe h=>?_
 simp only [seval,EMT,zF,zD,zE,hb67]
 refine SpecS.by (strings_HasPrefix_spec hy68) (by simp only [seval,FMT,zF,zD,zE,hb67]) ?_
 simp only [seval,EMT,zF,zD,zE,hb67]
 cases h
 simp only [seval,FMT,zF,zD,zE,hb67]
 refine .region λe h=>?_
 simp only [seval,EMT,zF,zD,zE,hb67]
 cases h
 simp only [seval,FMT,zF,zD,zE,hb67]
 intro v5
 refine Mir.toK (.cond rfl (λhb69=>?_) (λhb69=>?_))
 refine .seqK (.bind λs4 q70=>?_)
 replace q70 := cutT_ok q70
 simp only [xLC,xLN,zQ,nA] at q70
 refine .region λe h=>?_
 simp only [seval,EMT,und_9,q70,zP,and_true,true_and,dm,tm,zF,zD,zE]
 refine mU e (.ret λe h=>?_) h
 cases h
 simp only [seval,FMT,zF,zD,zE,Tryz.results110]
 refine .seqK (Mir.joinO (λv6 : Bool=>([.d (.str a0),U,U,U,U,U,U,.d (.int .i64 (zS.wrap y1.2)),U,U,U,U,U,U,U,U,U,U,U,U,U,U,U,U,U,U,U,U,U,U,U,U,U,U,U,U,U,U,U,U,U,U,U,U,U,U,U,U,U,U,U,U,U,U,U,U,U,U,U,U,U,U,U,U,U,U,U,U,U,U,U,U,U,U,U,U,U,U,U,U,U,U,U,U,U,.d (.bool v6)] ++ us 39)) (λv6=>⟨[],[]⟩) (λ_=>rfl) ?_ ?_)
 refine .ite (λhb71=>?_) (λhb71=>?_)
 refine .bind λy6 hy72=>.region λe h=>?_
 simp only [seval,EMT,zF,zD,zE,hb71]
 refine SpecS.by (strings_HasPrefix_spec hy72) (by simp only [seval,FMT,zF,zD,zE,hb71]) ?_
 simp only [seval,EMT,zF,zD,zE,hb71]
 cases h
 simp only [seval,FMT,zF,zD,zE,hb71]
 refine .region λe h=>?_
 simp only [seval,EMT,zF,zD,zE,hb71]
 cases h
 simp only [seval,FMT,zF,zD,zE,hb71]
 intro v6
 refine Mir.toK (.cond rfl (λhb73=>?_) (λhb73=>?_))
 refine .seqK (.bind λs5 q74=>?_)
 replace q74 := cutT_ok q74
 simp only [xLC,xLN,zQ,nA] at q74
 refine .region λe h=>?_
 simp only [seval,EMT,und_9,q74,zP,and_true,true_and,dm,tm,zF,zD,zE]
 refine mU e (.ret λe h=>?_) h
 cases h
 simp only [seval,FMT,zF,zD,zE,Tryz.results110]
 refine .skip λe h=>?_
 cases h
 simp only [seval,FMT,zF,zD,zE,Tryz.results110]
 refine .skip λe h=>?_
 cases h
 simp only [seval,FMT,zF,zD,zE,Tryz.results110]
 intro v7
 refine Mir.toK (.sR λe h=>?_)
 simp only [seval,EMT,zF,zD,zE]
 refine mU e (.seqK (.sR λe h=>?_)) h
 simp only [seval,EMT,zF,zD,zE]
 refine mU e (.cond rfl (λhb75=>?_) (λhb75=>?_)) h
 refine .seqK (.guard λq76=>?_)
 replace q76 := ne_of q76
 refine .region λe h=>?_
 simp only [seval,EMT,und_9,q76,zF,zD,zE]
 refine mU e (.sR λe h=>?_) h
 simp only [seval,EMT,zF,zD,zE]
 refine mU e (.cond rfl (λhb77=>?_) (λhb77=>?_)) h
 exact Mir.no
 exact Mir.no
 exact Mir.no
def dc_FromMillimetres (a0 : (List UInt8)) : Option (Int × Int) := bindO (dc_digits a0) λ(y1 : (List UInt8) × Int × Bool)=>if (!y1.2.2 || (decide (y1.2.1 > 3))) = true then some (0,2) else bindO (strings_Repeat [48] (zS.wrap (3 - y1.2.1))) λ(y2 : (List UInt8))=>guardO (okStr y1.1 y2) ( bindO (strconv_ParseIntE (y1.1 ++ y2) 10 64) λ(y3 : Int × Bool)=>if (!y3.2 || ((decide (y3.1 > 10000000)) || (decide (y3.1 < (-10000000))))) = true then some (0,11) else some (y3.1,0))
theorem dc_FromMillimetres_spec {a0 : (List UInt8)} {y : Int × Int} (h : dc_FromMillimetres a0 = some y) : Spec gP 79 [.d (.str a0)] (.tuple [.d (.int .i64 y.1),.d (.int .i64 y.2)]) := by
 refine spec_mir Tryz.func79 rfl (by kernel_rfl) (by kernel_rfl) (λy : Int × Int=>.tuple [.d (.int .i64 y.1),.d (.int .i64 y.2)]) ?_ h
 unfold dc_FromMillimetres
 simp only [zI,zK,nS,nA,Tryz.ntmps79,SV]
 refine .sR λe h=>?_
 simp only [seval,EMT]
 refine mU e (.seqK (.bind λy1 hy1=>.region λe h=>?_)) h
 simp only [seval,EMT]
 refine SpecS.by (dc_digits_spec hy1) (by simp only [seval,FMT]) ?_
 simp only [seval,EMT]
 refine mU e (.seqK (.seqK (.joinV ([U,U,U,U,.d (.str y1.1),.d (.int .i64 y1.2.1),U,U,U,U,U,U,U,U,U,U,U,U,U,U,.d (.bool (!y1.2.2 || (decide (y1.2.1 > 3))))] ++ us 20) ⟨[],[]⟩ rfl ?_ ?_))) h
 refine SWs.region ?_
 rcases zH (y1.2.2) with hb2 | hb2
 simp only [seval,EMT,SL,PB,hb2]
 simp only [seval,EMT,SL,PB,hb2]
 refine Mir.toK (.cond rfl (λhb4=>?_) (λhb4=>?_))
 refine .sR λe h=>?_
 simp only [seval,EMT]
 refine mU e (.ret λe h=>?_) h
 cases h
 simp only [seval,FMT,Tryz.results79]
 refine .skip (Mir.toK (.seqK (.bind λy2 hy5=>.guard λq6=>?_)))
 replace q6 := okStr_ok q6
 refine .bind λy3 hy7=>.region λe h=>?_
 simp only [seval,EMT]
 refine SpecS.by (strings_Repeat_spec hy5) (by simp only [seval,FMT]) ?_
 simp only [seval,EMT,q6]
 refine SpecE.by (strconv_ParseIntE_spec hy7) rfl (λt1 p1=>?_)
 simp only [seval,EMT]
 refine mU e (.seqK (.seqK (.joinV [U,U,U,U,U,U,U,.d (.int .i64 y3.1),U,U,U,U,U,U,U,U,U,U,U,U,U,U,U,U,U,U,U,U,U,U,U,U,U,U,U,U,U,U,U,.d (.bool (!y3.2 || ((decide (y3.1 > 10000000)) || (decide (y3.1 < (-10000000)))))),U] ⟨[],[]⟩ rfl ?_ ?_))) h
 refine SWs.region ?_
 rcases zH (y3.2) with hb8 | hb8
 rcases zH (decide (y3.1 > 10000000)) with hb9 | hb9
 simp only [seval,EMT,SL,PB,bx_ne,(nr (by kernel_rfl) : ifaceT Tryz.prog 57 = true),hb8,hb9]
 simp only [seval,EMT,SL,PB,bx_ne,(nr (by kernel_rfl) : ifaceT Tryz.prog 57 = true),hb8,hb9]
 simp only [seval,EMT,SL,PB,bx_ne,(nr (by kernel_rfl) : ifaceT Tryz.prog 57 = true),hb8]
 refine Mir.toK (.cond rfl (λhb11=>?_) (λhb11=>?_))
 refine .sR λe h=>?_
 simp only [seval,EMT]
 refine mU e (.ret λe h=>?_) h
 cases h
 simp only [seval,FMT,Tryz.results79]
 refine .skip (Mir.toK (.sR λe h=>?_))
 simp only [seval,EMT]
 refine mU e (.ret λe h=>?_) h
 cases h
 simp only [seval,FMT,Tryz.results79]
def dc_Millimetres (a0 : Int) : Option (List UInt8) := bindO (if (decide (a0 < 0)) = true then some ([45],zV.wrap (0 - (zV.wrap a0))) else some ([],zV.wrap a0)) λ(v1 : (List UInt8) × Int)=>bindO (strconv_FormatUint (zV.wrap (zC v1.2 1000)) 10) λ(y1 : (List UInt8))=>guardO (okStr v1.1 y1) ( bindO (if ((zG v1.2 1000) != 0) = true then bindO (strconv_FormatUint (zV.wrap (1000 + (zG v1.2 1000))) 10) λ(y2 : (List UInt8))=>bindO (cutF y2 1) λ(s1 : (List UInt8))=>bindO (strings_TrimRight s1 [48]) λ(y3 : (List UInt8))=>guardO (okStr [46] y3) ( guardO (okStr (v1.1 ++ y1) ([46] ++ y3)) ( some ((v1.1 ++ y1) ++ ([46] ++ y3)))) else some (v1.1 ++ y1)) λ(v2 : (List UInt8))=>some v2)
theorem dc_Millimetres_spec {a0 : Int} {y : (List UInt8)} (h : dc_Millimetres a0 = some y) : Spec gP 20 [.d (.int .i64 a0)] (.d (.str y)) := by
 refine spec_mir Tryz.func20 rfl (by kernel_rfl) (by kernel_rfl) (λy : (List UInt8)=>.d (.str y)) ?_ h
 unfold dc_Millimetres
 simp only [zI,zK,nS,nA,Tryz.ntmps20,SV]
 refine .sR λe h=>?_
 simp only [seval,EMT]
 refine mU e (.sR λe h=>?_) h
 simp only [seval,EMT,und_2,und_89]
 refine mU e (.seqK (.sR λe h=>?_)) h
 simp only [seval,EMT]
 refine mU e (Mir.joinO (λv1 : (List UInt8) × Int=>([U,U,U,.d (.str v1.1),.d (.int .u64 v1.2)] ++ us 26)) (λv1=>⟨[],[]⟩) (λ_=>rfl) ?_ ?_) h
 refine .cond rfl (λhb2=>?_) (λhb2=>?_)
 refine .region λe h=>?_
 simp only [seval,EMT,und_2,und_89]
 cases h
 simp only [seval,FMT,Tryz.results20]
 refine .skip λe h=>?_
 cases h
 simp only [seval,FMT,Tryz.results20]
 intro v1
 refine Mir.toK (.seqK (.bind λy1 hy3=>.guard λq4=>?_))
 replace q4 := okStr_ok q4
 refine .region λe h=>?_
 simp only [seval,EMT]
 refine SpecS.by (strconv_FormatUint_spec hy3) (by simp only [seval,FMT]) ?_
 simp only [seval,EMT,q4]
 refine mU e (.seqK (.sR λe h=>?_)) h
 simp only [seval,EMT]
 refine mU e (Mir.joinO (λv2 : (List UInt8)=>([U,U,U,U,U,.d (.str v2)] ++ us 25)) (λv2=>⟨[],[]⟩) (λ_=>rfl) ?_ ?_) h
 refine .cond rfl (λhb11=>?_) (λhb11=>?_)
 refine .bind λy2 hy12=>.bind λs1 q13=>?_
 replace q13 := cutF_ok q13
 simp only [zL,zN,zO,dp0] at q13
 refine .bind λy3 hy14=>.guard λq15=>?_
 replace q15 := okStr_ok q15
 try simp only [lm,xNA,xCA,xAN,xLC,xLN,xAC,xAL,nA,zQ] at q15
 refine .guard λq16=>?_
 replace q16 := okStr_ok q16
 try simp only [lm,xNA,xCA,xAN,xLC,xLN,xAC,xAL,nA,zQ] at q16
 refine .region λe h=>?_
 simp only [seval,EMT]
 refine SpecS.by (strconv_FormatUint_spec hy12) (by simp only [seval,FMT]) ?_
 simp only [seval,EMT,und_9,q13,zP,and_true,true_and,dm,tm]
 refine SpecS.by (strings_TrimRight_spec hy14) (by simp only [seval,FMT]) ?_
 simp only [seval,EMT,q15,q16]
 cases h
 simp only [seval,FMT,Tryz.results20]
 refine .skip λe h=>?_
 cases h
 simp only [seval,FMT,Tryz.results20]
 intro v2
 refine Mir.toK (.sR λe h=>?_)
 simp only [seval,EMT]
 refine mU e (.ret λe h=>?_) h
 cases h
 simp only [seval,FMT,Tryz.results20]
def r06_FromMillimetres (a0 : (List UInt8)) : Option (Int × Int) := bindO (r06_Places a0) λ(y1 : Int)=>if ((decide (y1 < 0)) || (decide (y1 > 3))) = true then some (0,2) else bindO (r06_Parse a0) λ(y2 : ApiRat × Int)=>bindO (r06_Power 3) λ(y3 : ApiRat)=>bindO (r02_Mul y2.1 y3) λ(y4 : ApiRat)=>bindO (r02_Floor y4) λ(y5 : ApiInt)=>bindO (r06_within y5) λ(y6 : Int × Bool)=>if (!y6.2) = true then some (0,11) else some (y6.1,0)
theorem r06_FromMillimetres_spec {a0 : (List UInt8)} {y : Int × Int} (h : r06_FromMillimetres a0 = some y) : Spec gP 55 [.d (.str a0)] (.tuple [.d (.int .i64 y.1),.d (.int .i64 y.2)]) := by
 refine spec_mir Tryz.func55 rfl (by kernel_rfl) (by kernel_rfl) (λy : Int × Int=>.tuple [.d (.int .i64 y.1),.d (.int .i64 y.2)]) ?_ h
 unfold r06_FromMillimetres
 simp only [zI,zK,nS,nA,Tryz.ntmps55,SV]
 refine .sR λe h=>?_
 simp only [seval,EMT]
 refine mU e (.seqK (.bind λy1 hy1=>.region λe h=>?_)) h
 simp only [seval,EMT]
 refine SpecS.by (r06_Places_spec hy1) (by simp only [seval,FMT]) ?_
 simp only [seval,EMT]
 refine mU e (.seqK (.seqK (.joinV ([.d (.str a0),U,U,U,U,U,U,U,U,U,U,U,U,U,U,U,.d (.bool ((decide (y1 < 0)) || (decide (y1 > 3))))] ++ us 16) ⟨[],[]⟩ rfl ?_ ?_))) h
 refine SWs.region ?_
 rcases zH (decide (y1 < 0)) with hb2 | hb2
 simp only [seval,EMT,SL,PB,hb2]
 simp only [seval,EMT,SL,PB,hb2]
 refine Mir.toK (.cond rfl (λhb4=>?_) (λhb4=>?_))
 refine .sR λe h=>?_
 simp only [seval,EMT]
 refine mU e (.ret λe h=>?_) h
 cases h
 simp only [seval,FMT,Tryz.results55]
 refine .skip (Mir.toK (.seqK (.bind λy2 hy5=>.region λe h=>?_)))
 simp only [seval,EMT]
 refine SpecS.by (r06_Parse_spec hy5) (by simp only [seval,FMT]) ?_
 simp only [seval,EMT,zero_135,sz_135]
 refine mU e (.seqK (.bind λy3 hy6=>.bind λy4 hy7=>.bind λy5 hy8=>.bind λy6 hy9=>.regionD [] (by kernel_rfl) λe h=>?_)) h
 simp only [seval,EMT,SB,ag_135,sz_135]
 refine Spec.by (r06_Power_spec hy6) (by simp only [seval,FMT]) ?_
 simp only [seval,EMT,SB]
 refine Spec.by (r02_Mul_spec hy7) (by simp only [seval,FMT]) ?_
 simp only [seval,EMT,SB]
 refine Spec.by (r02_Floor_spec hy8) (by simp only [seval,FMT]) ?_
 simp only [seval,EMT,SB]
 refine Spec.by (r06_within_spec hy9) (by simp only [seval,FMT]) ?_
 simp only [seval,EMT,SB]
 refine mU e (.seqK (.sR λe h=>?_)) h
 simp only [seval,EMT]
 refine mU e (.cond rfl (λhb11=>?_) (λhb11=>?_)) h
 refine .sR λe h=>?_
 simp only [seval,EMT]
 refine mU e (.ret λe h=>?_) h
 cases h
 simp only [seval,FMT,Tryz.results55]
 refine .skip (Mir.toK (.sR λe h=>?_))
 simp only [seval,EMT]
 refine mU e (.ret λe h=>?_) h
 cases h
 simp only [seval,FMT,Tryz.results55]
end Go.Proofs.YtjamgiobipdfhaaGreatDoor
