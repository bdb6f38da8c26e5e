import Derived.Test.YtjamgiobipdfhaaGreatDoorGx
import Derived.Test.YtjamgiobipdfhaaGreatDoorTy
import Derived.Test.YtjamgiobipdfhaaGreatDoorSzz
open List renaming map → zC,replicate → zD,length → zF
open Int renaming toNat → zE,tdiv → zG,toNat_natCast → zI,tmod → zK
open Nat renaming le_of_ble_eq_true → zH
open Bool renaming eq_false_or_eq_true → zJ
open Go.IntKind renaming i64 → zO,u32 → zP,u64 → zQ
namespace Go.Proofs.YtjamgiobipdfhaaGreatDoor
open Go.RowKit
open Nat renaming reduceAdd → nA,reduceSub → nS,reduceMul → nM,reduceEqDiff → nE,reduceLeDiff → nL,reduceLT → nT,reduceBEq → nB
open Int renaming reduceLT → iT,reduceToNat → iN,reduceEq → iE
set_option linter.unusedVariables false
set_option linter.unusedSimpArgs false
set_option maxRecDepth 100000
set_option maxHeartbeats 8000000
structure ApiInt where
 Neg : Bool
 Limbs : (List Int)
 deriving DecidableEq
def encApiInt (x : ApiInt) : List D := [.bool x.Neg,.list (zC (eInt .u32) x.Limbs)]
theorem ENMI : type_of% (@encApiInt.eq_1) := @encApiInt.eq_1
theorem EMI : type_of% (And.intro @SE <| @ENMI) := And.intro @SE <| @ENMI
theorem FMI : type_of% (And.intro @SF <| @ENMI) := And.intro @SF <| @ENMI
def r01_trim (a0 : (List Int)) : Option (List Int) := bindO (loopX (λ(v1 : (List Int))=>bindO (if (decide ((v1.length : Int) > 0)) = true then bindO (gt v1 (zO.wrap ((v1.length : Int) - 1))) λ(e1 : Int)=>some (e1 == 0) else some false) λ(v2 : Bool)=>if v2 = true then bindO (cutT v1 (zO.wrap ((v1.length : Int) - 1))) λ(s1 : (List Int))=>some (.go s1) else some (.ret v1)) fuel a0) λ(v3 : (List Int))=>some v3
theorem r01_trim_spec {a0 : (List Int)} {y : (List Int)} (h : r01_trim a0 = some y) : Spec gP 162 [.d (.list (zC (eInt .u32) a0))] (.d (.list (zC (eInt .u32) y))) := by
 refine spec_mir Tryz.func162 rfl (by kernel_rfl) (by kernel_rfl) (λy : (List Int)=>.d (.list (zC (eInt .u32) y))) ?_ h
 unfold r01_trim
 simp only [zD,zF,nS,nA,Tryz.ntmps162,SV]
 refine .sR λe h=>?_
 simp only [seval,EMI,eInt]
 refine mU e (.seqK (Mir.joinO (λv3 : (List Int)=>([.d (.list (zC (eInt .u32) v3))] ++ us 20)) (λv3=>⟨[],[]⟩) (λ_=>rfl) ?_ ?_)) h
 refine .block (Mir.loop (λv1 : (List Int)=>([.d (.list (zC (eInt .u32) v1))] ++ us 20)) (λv1=>⟨[],[]⟩) (λ_=>rfl) (by simp only [seval,FMI,eInt]) (by simp only [seval,FMI,eInt]) λv1=>.seqK (.seqK (Mir.joinO (λv2 : Bool=>([.d (.list (zC (eInt .u32) v1)),U,U,U,U,U,U,U,U,U,U,U,U,U,.d (.bool v2)] ++ us 6)) (λv2=>⟨[],[]⟩) (λ_=>rfl) ?_ ?_)))
 refine .ite (λhb34=>?_) (λhb34=>?_)
 refine .bind λe1 q35=>?_
 replace q35 := gt_ok q35
 refine .region λe h=>?_
 simp only [seval,EMI,und_131,sz_155,q35,ag_155,eInt,hb34]
 cases h
 simp only [seval,FMI,eInt,hb34]
 refine .region λe h=>?_
 simp only [seval,EMI,und_131,eInt,hb34]
 cases h
 simp only [seval,FMI,eInt,hb34]
 intro v2
 refine Mir.toK (.cond rfl (λhb37=>?_) (λhb37=>?_))
 refine .skip (Mir.toK (.block (.bind λs1 q38=>?_)))
 replace q38 := cutT_ok q38
 refine .region λe h=>?_
 simp only [seval,EMI,und_131,sz_155,q38,Nat.le_refl,and_true,true_and,dm,tm,al_eInt,eInt]
 cases h
 simp only [seval,FMI,eInt,Tryz.results162]
 refine .exit λe h=>?_
 cases h
 simp only [seval,FMI,eInt,Tryz.results162]
 intro v3
 refine Mir.toK (.sR λe h=>?_)
 simp only [seval,EMI,eInt]
 refine mU e (.ret λe h=>?_) h
 cases h
 simp only [seval,FMI,eInt,Tryz.results162]
def r01_plus (a0 : (List Int)) (a1 : (List Int)) : Option (List Int) := bindO (if (decide ((a0.length : Int) < (a1.length : Int))) = true then some (a1,a0) else some (a0,a1)) λ(v1 : (List Int) × (List Int))=>guardO (decide ((0 : Int) ≤ (zO.wrap ((v1.1.length : Int) + 1)))) ( guardO (okLen (zE (zO.wrap ((v1.1.length : Int) + 1)))) ( bindO (guardO (okIdx v1.1) ( rangeX (λ(i1 : Nat) (e1 : Int) (v2 : Int × (List Int))=>bindO (if (decide ((i1 : Int) < (v1.2.length : Int))) = true then bindO (gt v1.2 (i1 : Int)) λ(e2 : Int)=>some (zP.wrap ((zP.wrap (v2.1 + e1)) + e2)) else some (zP.wrap (v2.1 + e1))) λ(v3 : Int)=>bindO (gt v2.2 (i1 : Int)) λ(e3 : Int)=>some (.go (zP.wrap (zG v3 1000000000),v2.2.set (zE (i1 : Int)) (zK v3 1000000000)))) (λ(v2 : Int × (List Int))=>some (v2.1,v2.2)) v1.1 0 (0,zD (zE (zO.wrap ((v1.1.length : Int) + 1))) (0 : Int)))) λ(v4 : Int × (List Int))=>bindO (gt v4.2 (v1.1.length : Int)) λ(e4 : Int)=>bindO (r01_trim (v4.2.set (zE (v1.1.length : Int)) v4.1)) λ(y1 : (List Int))=>some y1))
theorem r01_plus_spec {a0 : (List Int)} {a1 : (List Int)} {y : (List Int)} (h : r01_plus a0 a1 = some y) : Spec gP 175 [.d (.list (zC (eInt .u32) a0)),.d (.list (zC (eInt .u32) a1))] (.d (.list (zC (eInt .u32) y))) := by
 refine spec_mir Tryz.func175 rfl (by kernel_rfl) (by kernel_rfl) (λy : (List Int)=>.d (.list (zC (eInt .u32) y))) ?_ h
 unfold r01_plus
 simp only [zD,zF,nS,nA,Tryz.ntmps175,SV]
 refine .sR λe h=>?_
 simp only [seval,EMI,eInt,rmap_set,spD]
 refine mU e (.seqK (.sR λe h=>?_)) h
 simp only [seval,EMI,und_131,eInt,rmap_set,spD]
 refine mU e (Mir.joinO (λv1 : (List Int) × (List Int)=>([.d (.list (zC (eInt .u32) v1.1)),.d (.list (zC (eInt .u32) v1.2))] ++ us 53)) (λv1=>⟨[],[]⟩) (λ_=>rfl) ?_ ?_) h
 refine .cond rfl (λhb2=>?_) (λhb2=>?_)
 refine .region λe h=>?_
 simp only [seval,EMI,eInt]
 cases h
 simp only [seval,FMI,eInt,Tryz.results175]
 refine .skip λe h=>?_
 cases h
 simp only [seval,FMI,eInt,Tryz.results175]
 intro v1
 refine Mir.toK (.seqK (.guard λq3=>.guard λq4=>.regionW λe h=>regW.alt 3 rfl ?_))
 simp only [seval,EMI,w_none,w_eq,und_131,eInt,rmap_set,spD]
 refine alt_makeM (en := (eInt .u32)) (z := 0) rfl rfl app_131 zero_155 rfl rfl (of_decide_eq_true q3) q4 (regW.of ?_)
 simp only [seval,EMI,w_none,w_eq,eInt,rmap_set,spD]
 refine mU e (.sR λe h=>?_) h
 simp only [seval,EMI,eInt,rmap_set,spD]
 refine mU e (.seqK (.sR λe h=>?_)) h
 simp only [seval,EMI,eInt,rmap_set,spD]
 refine mU e (Mir.joinO (λv4 : Int × (List Int)=>([.d (.list (zC (eInt .u32) v1.1)),U,U,U,U,.gr 0 0,.d (.int .u32 v4.1)] ++ us 48)) (λv4=>⟨[[.rowc 155 0 (zC (eInt .u32) v4.2)]],[]⟩) (λ_=>rfl) ?_ ?_) h
 refine .block (.guard λq1=>Mir.range (λ(i1 : Nat) (v2 : Int × (List Int))=>([.d (.list (zC (eInt .u32) v1.1)),.d (.list (zC (eInt .u32) v1.2)),U,U,U,.gr 0 0,.d (.int .u32 v2.1),.d (.int .i64 (i1 : Int))] ++ us 47)) (λi1 v2=>⟨[[.rowc 155 0 (zC (eInt .u32) v2.2)]],[]⟩) q1 (λ_ _=>rfl) (by simp only [seval,FMI,eInt,rmap_set,spD,zNI]) (by simp only [seval,FMI,eInt,rmap_set,spD,zNI]) ?_ ?_)
 intro i1 e1 v2 q2
 refine .seqK (.sR λe h=>?_)
 simp only [seval,EMI,und_131,q2,eInt,rmap_set,spD]
 refine mU e (.condT rfl (.skip (Mir.toK (.seqK (.block (.sR λe h=>?_)))))) h
 simp only [seval,EMI,und_131,sz_155,q2,zI,ag_155,eInt,rmap_set,spD]
 refine mU e (.seqK (.sR λe h=>?_)) h
 simp only [seval,EMI,und_131,eInt,rmap_set,spD]
 refine mU e (Mir.joinO (λv3 : Int=>([.d (.list (zC (eInt .u32) v1.1)),.d (.list (zC (eInt .u32) v1.2)),U,U,U,.gr 0 0,.d (.int .u32 v3),.d (.int .i64 (i1 : Int))] ++ us 47)) (λv3=>⟨[[.rowc 155 0 (zC (eInt .u32) v2.2)]],[]⟩) (λ_=>rfl) ?_ ?_) h
 refine .cond rfl (λh1=>?_) (λh1=>?_)
 refine .bind λe2 q5=>?_
 replace q5 := gt_ok q5
 simp only [zI] at q5
 refine .region λe h=>?_
 simp only [seval,EMI,und_131,sz_155,q5,zI,ag_155,eInt,rmap_set,spD]
 cases h
 simp only [seval,FMI,eInt,rmap_set,spD,Tryz.results175]
 refine .skip λe h=>?_
 cases h
 simp only [seval,FMI,eInt,rmap_set,spD,Tryz.results175]
 intro v3
 refine Mir.toK (.seqK (.bind λe3 q6=>?_))
 replace q6 := gt_ok q6
 refine .regionW λe h=>regW.alt 4 rfl ?_
 simp only [seval,EMI,w_none,w_eq,eInt,rmap_set,spD]
 refine alt_indexR rfl rfl rfl und_131 sz_155 (row_lo q6.1) (row_hi q6.2 q6.1) (regW.alt 0 rfl ?_)
 simp only [seval,EMI,w_none,w_eq,und_131,sz_155,eInt,rmap_set,spD]
 refine alt_storeR rfl rfl (row_at q6.2) rfl rfl sz_155 rfl (zH rfl) (regW.of ?_)
 simp only [seval,EMI,w_none,w_eq,sz_155,eInt,rmap_set,spD]
 refine mU e (.region λe h=>?_) h
 simp only [seval,EMI,eInt,rmap_set,spD]
 refine mU e (.region λe h=>?_) h
 simp only [seval,EMI,eInt,rmap_set,spD]
 cases h
 simp only [seval,FMI,eInt,rmap_set,spD,Tryz.results175,q2]
 intro v2 q7
 refine .seqK (.sR λe h=>?_)
 simp only [seval,EMI,und_131,q7,eInt,rmap_set,spD]
 refine mU e (.condF rfl (.exit λe h=>?_)) h
 cases h
 simp only [seval,FMI,eInt,rmap_set,spD,Tryz.results175]
 intro v4
 refine Mir.toK (.seqK (.bind λe4 q8=>?_))
 replace q8 := gt_ok q8
 refine .regionW λe h=>regW.alt 4 rfl ?_
 simp only [seval,EMI,w_none,w_eq,und_131,eInt,rmap_set,spD]
 refine alt_indexR rfl rfl rfl und_131 sz_155 (row_lo q8.1) (row_hi q8.2 q8.1) (regW.alt 0 rfl ?_)
 simp only [seval,EMI,w_none,w_eq,und_131,sz_155,eInt,rmap_set,spD]
 refine alt_storeR rfl rfl (row_at q8.2) rfl rfl sz_155 rfl (zH rfl) (regW.of ?_)
 simp only [seval,EMI,w_none,w_eq,sz_155,eInt,rmap_set,spD]
 refine mU e (.seqK (.frz 0 rfl ?_)) h
 simp only [seval,us_0,us_s,xCA,xNA,and_self,and_true,true_and,and_false,false_and,SZ]
 refine .bind λy1 h2=>.region λe h=>?_
 simp only [seval,EMI,eInt,rmap_set,spD]
 refine SpecS.by (r01_trim_spec h2) (by simp only [seval,FMI,eInt,rmap_set,spD]) ?_
 simp only [seval,EMI,eInt,rmap_set,spD]
 refine mU e (.ret λe h=>?_) h
 cases h
 simp only [seval,FMI,eInt,rmap_set,spD,Tryz.results175]
def r01_signed (a0 : Bool) (a1 : (List Int)) : Option ApiInt := bindO (r01_trim a1) λ(y1 : (List Int))=>some (ApiInt.mk (a0 && (decide ((y1.length : Int) > 0))) y1)
theorem r01_signed_spec {a0 : Bool} {a1 : (List Int)} {y : ApiInt} (h : r01_signed a0 a1 = some y) : Spec gP 130 [.d (.bool a0),.d (.list (zC (eInt .u32) a1))] (.agg [.d (.bool y.Neg),.d (.list (zC (eInt .u32) y.Limbs))]) := by
 refine spec_mir Tryz.func130 rfl (by kernel_rfl) (by kernel_rfl) (λy : ApiInt=>.agg [.d (.bool y.Neg),.d (.list (zC (eInt .u32) y.Limbs))]) ?_ h
 unfold r01_signed
 simp only [zD,zF,nS,nA,Tryz.ntmps130,SV]
 refine .sR λe h=>?_
 simp only [seval,EMI,zero_133,eInt]
 refine mU e (.seqK (.bind λy1 hy1=>.region λe h=>?_)) h
 simp only [seval,EMI,eInt]
 refine SpecS.by (r01_trim_spec hy1) (by simp only [seval,FMI,eInt]) ?_
 simp only [seval,EMI,eInt]
 refine mU e (.seqK (.joinV ([U,U,U,U,.ptr 0 0] ++ us 10) ⟨[[.d (.bool (a0 && (decide ((y1.length : Int) > 0)))),.d (.list (zC (eInt .u32) y1))]],[]⟩ rfl ?_ ?_)) h
 refine SWs.region ?_
 rcases zJ (a0) with hb2 | hb2
 simp only [seval,EMI,SL,PB,und_131,zero_133,pl_133,sz_133,hb2,eInt]
 simp only [seval,EMI,SL,PB,zero_133,pl_133,sz_133,hb2,eInt]
 refine Mir.toK (.ret λe h=>?_)
 cases h
 simp only [seval,FMI,eInt,Tryz.results130,ag_133,sz_133]
def r01_compare (a0 : (List Int)) (a1 : (List Int)) : Option Int := if ((a0.length : Int) != (a1.length : Int)) = true then if (decide ((a0.length : Int) < (a1.length : Int))) = true then some (-1) else some 1 else bindX (loopX (λ(v1 : Int)=>if (decide (v1 ≥ 0)) = true then bindO (gt a0 v1) λ(e1 : Int)=>bindO (gt a1 v1) λ(e2 : Int)=>if (decide (e1 < e2)) = true then some (.ret (.ret (-1))) else if (decide (e1 > e2)) = true then some (.ret (.ret 1)) else some (.go (zO.wrap (v1 - 1))) else some (.ret (.go ()))) fuel (zO.wrap ((a0.length : Int) - 1))) λ(v2 : Unit)=>some 0
theorem r01_compare_spec {a0 : (List Int)} {a1 : (List Int)} {y : Int} (h : r01_compare a0 a1 = some y) : Spec gP 129 [.d (.list (zC (eInt .u32) a0)),.d (.list (zC (eInt .u32) a1))] (.d (.int .i64 y)) := by
 refine spec_mir Tryz.func129 rfl (by kernel_rfl) (by kernel_rfl) (λy : Int=>.d (.int .i64 y)) ?_ h
 unfold r01_compare
 simp only [zD,zF,nS,nA,Tryz.ntmps129,SV]
 refine .sR λe h=>?_
 simp only [seval,EMI,eInt]
 refine mU e (.seqK (.sR λe h=>?_)) h
 simp only [seval,EMI,und_131,eInt]
 refine mU e (.cond rfl (λhb4=>?_) (λhb4=>?_)) h
 refine .seqK (.sR λe h=>?_)
 simp only [seval,EMI,und_131,eInt]
 refine mU e (.cond rfl (λhb6=>?_) (λhb6=>?_)) h
 refine .sR λe h=>?_
 simp only [seval,EMI,eInt]
 refine mU e (.ret λe h=>?_) h
 cases h
 simp only [seval,FMI,eInt,Tryz.results129]
 refine .skip (Mir.toK (.sR λe h=>?_))
 simp only [seval,EMI,eInt]
 refine mU e (.ret λe h=>?_) h
 cases h
 simp only [seval,FMI,eInt,Tryz.results129]
 refine .skip (Mir.toK (.seqK (.sR λe h=>?_)))
 simp only [seval,EMI,und_131,eInt]
 refine mU e (Mir.join (λv2 : Unit=>(us 41)) (λv2=>⟨[],[]⟩) (λ_=>rfl) ?_ ?_) h
 refine .block (Mir.loop (λv1 : Int=>([.d (.list (zC (eInt .u32) a0)),.d (.list (zC (eInt .u32) a1)),U,U,U,.d (.int .i64 v1)] ++ us 35)) (λv1=>⟨[],[]⟩) (λ_=>rfl) (by simp only [seval,FMI,eInt]) (by simp only [seval,FMI,eInt]) λv1=>.seqK (.sR λe h=>?_))
 simp only [seval,EMI,eInt]
 refine mU e (.cond rfl (λhb73=>?_) (λhb73=>?_)) h
 refine .skip (Mir.toK (.seqK (.block (.seqK (.seqK (.bind λe1 q79=>?_))))))
 replace q79 := gt_ok q79
 refine .bind λe2 q80=>?_
 replace q80 := gt_ok q80
 refine .regionD [] (by kernel_rfl) λe h=>?_
 simp only [seval,EMI,SB,und_131,sz_155,q79,ag_155,q80,eInt]
 refine mU e (.cond rfl (λhb82=>?_) (λhb82=>?_)) h
 refine .sR λe h=>?_
 simp only [seval,EMI,eInt]
 refine mU e (.ret λe h=>?_) h
 cases h
 simp only [seval,FMI,eInt,Tryz.results129]
 refine .skip (Mir.toK (.seqK (.regionD [] (by kernel_rfl) λe h=>?_)))
 simp only [seval,EMI,SB,und_131,sz_155,q79,ag_155,q80,eInt]
 refine mU e (.cond rfl (λhb84=>?_) (λhb84=>?_)) h
 refine .sR λe h=>?_
 simp only [seval,EMI,eInt]
 refine mU e (.ret λe h=>?_) h
 cases h
 simp only [seval,FMI,eInt,Tryz.results129]
 refine .skip (Mir.toB (Mir.toK (.region λe h=>?_)))
 simp only [seval,EMI,eInt]
 cases h
 simp only [seval,FMI,eInt,Tryz.results129]
 refine .exit λe h=>?_
 cases h
 simp only [seval,FMI,eInt,Tryz.results129]
 intro v2
 refine Mir.toK (.sR λe h=>?_)
 simp only [seval,EMI,eInt]
 refine mU e (.ret λe h=>?_) h
 cases h
 simp only [seval,FMI,eInt,Tryz.results129]
def r01_minus (a0 : (List Int)) (a1 : (List Int)) : Option (List Int) := guardO (decide ((0 : Int) ≤ (a0.length : Int))) ( guardO (okLen (zE (a0.length : Int))) ( bindO (guardO (okIdx a0) ( rangeX (λ(i1 : Nat) (e1 : Int) (v1 : Int × (List Int))=>bindO (if (decide ((i1 : Int) < (a1.length : Int))) = true then bindO (gt a1 (i1 : Int)) λ(e2 : Int)=>some (zP.wrap ((zP.wrap ((zP.wrap (e1 + 1000000000)) - v1.1)) - e2)) else some (zP.wrap ((zP.wrap (e1 + 1000000000)) - v1.1))) λ(v2 : Int)=>bindO (if (decide (v2 ≥ 1000000000)) = true then some (0,zP.wrap (v2 - 1000000000)) else some (1,v2)) λ(v3 : Int × Int)=>bindO (gt v1.2 (i1 : Int)) λ(e3 : Int)=>some (.go (v3.1,v1.2.set (zE (i1 : Int)) v3.2))) (λ(v1 : Int × (List Int))=>some v1.2) a0 0 (0,zD (zE (a0.length : Int)) (0 : Int)))) λ(v4 : (List Int))=>bindO (r01_trim v4) λ(y1 : (List Int))=>some y1))
theorem r01_minus_spec {a0 : (List Int)} {a1 : (List Int)} {y : (List Int)} (h : r01_minus a0 a1 = some y) : Spec gP 174 [.d (.list (zC (eInt .u32) a0)),.d (.list (zC (eInt .u32) a1))] (.d (.list (zC (eInt .u32) y))) := by
 refine spec_mir Tryz.func174 rfl (by kernel_rfl) (by kernel_rfl) (λy : (List Int)=>.d (.list (zC (eInt .u32) y))) ?_ h
 unfold r01_minus
 simp only [zD,zF,nS,nA,Tryz.ntmps174,SV]
 refine .sR λe h=>?_
 simp only [seval,EMI,eInt,rmap_set,spD]
 refine mU e (.seqK (.guard λq1=>.guard λq2=>.regionW λe h=>regW.alt 2 rfl ?_)) h
 simp only [seval,EMI,w_none,w_eq,und_131,eInt,rmap_set,spD]
 refine alt_makeM (en := (eInt .u32)) (z := 0) rfl rfl app_131 zero_155 rfl rfl (of_decide_eq_true q1) q2 (regW.of ?_)
 simp only [seval,EMI,w_none,w_eq,eInt,rmap_set,spD]
 refine mU e (.sR λe h=>?_) h
 simp only [seval,EMI,eInt,rmap_set,spD]
 refine mU e (.seqK (.sR λe h=>?_)) h
 simp only [seval,EMI,eInt,rmap_set,spD]
 refine mU e (Mir.joinO (λv4 : (List Int)=>([U,U,U,U,U,.gr 0 0] ++ us 39)) (λv4=>⟨[[.rowc 155 0 (zC (eInt .u32) v4)]],[]⟩) (λ_=>rfl) ?_ ?_) h
 refine .block (.guard λq3=>Mir.range (λ(i1 : Nat) (v1 : Int × (List Int))=>([.d (.list (zC (eInt .u32) a0)),.d (.list (zC (eInt .u32) a1)),U,U,U,.gr 0 0,.d (.int .u32 v1.1),.d (.int .i64 (i1 : Int))] ++ us 37)) (λi1 v1=>⟨[[.rowc 155 0 (zC (eInt .u32) v1.2)]],[]⟩) q3 (λ_ _=>rfl) (by simp only [seval,FMI,eInt,rmap_set,spD,zNI]) (by simp only [seval,FMI,eInt,rmap_set,spD,zNI]) ?_ ?_)
 intro i1 e1 v1 q4
 refine .seqK (.sR λe h=>?_)
 simp only [seval,EMI,und_131,q4,eInt,rmap_set,spD]
 refine mU e (.condT rfl (.skip (Mir.toK (.seqK (.block (.sR λe h=>?_)))))) h
 simp only [seval,EMI,und_131,sz_155,q4,zI,ag_155,eInt,rmap_set,spD]
 refine mU e (.seqK (.sR λe h=>?_)) h
 simp only [seval,EMI,und_131,eInt,rmap_set,spD]
 refine mU e (Mir.joinO (λv2 : Int=>([.d (.list (zC (eInt .u32) a0)),.d (.list (zC (eInt .u32) a1)),U,U,U,.gr 0 0,U,.d (.int .i64 (i1 : Int)),.d (.int .u32 v2)] ++ us 36)) (λv2=>⟨[[.rowc 155 0 (zC (eInt .u32) v1.2)]],[]⟩) (λ_=>rfl) ?_ ?_) h
 refine .cond rfl (λh1=>?_) (λh1=>?_)
 refine .bind λe2 q5=>?_
 replace q5 := gt_ok q5
 simp only [zI] at q5
 refine .region λe h=>?_
 simp only [seval,EMI,und_131,sz_155,q5,zI,ag_155,eInt,rmap_set,spD]
 cases h
 simp only [seval,FMI,eInt,rmap_set,spD,Tryz.results174]
 refine .skip λe h=>?_
 cases h
 simp only [seval,FMI,eInt,rmap_set,spD,Tryz.results174]
 intro v2
 refine Mir.toK (.sR λe h=>?_)
 simp only [seval,EMI,eInt,rmap_set,spD]
 refine mU e (.seqK (.sR λe h=>?_)) h
 simp only [seval,EMI,eInt,rmap_set,spD]
 refine mU e (Mir.joinO (λv3 : Int × Int=>([.d (.list (zC (eInt .u32) a0)),.d (.list (zC (eInt .u32) a1)),U,U,U,.gr 0 0,.d (.int .u32 v3.1),.d (.int .i64 (i1 : Int)),.d (.int .u32 v3.2)] ++ us 36)) (λv3=>⟨[[.rowc 155 0 (zC (eInt .u32) v1.2)]],[]⟩) (λ_=>rfl) ?_ ?_) h
 refine .cond rfl (λh2=>?_) (λh2=>?_)
 refine .region λe h=>?_
 simp only [seval,EMI,eInt,rmap_set,spD]
 cases h
 simp only [seval,FMI,eInt,rmap_set,spD,Tryz.results174]
 refine .skip λe h=>?_
 cases h
 simp only [seval,FMI,eInt,rmap_set,spD,Tryz.results174]
 intro v3
 refine Mir.toK (.bind λe3 q6=>?_)
 replace q6 := gt_ok q6
 refine .regionW λe h=>regW.alt 3 rfl ?_
 simp only [seval,EMI,w_none,w_eq,eInt,rmap_set,spD]
 refine alt_indexR rfl rfl rfl und_131 sz_155 (row_lo q6.1) (row_hi q6.2 q6.1) (regW.alt 0 rfl ?_)
 simp only [seval,EMI,w_none,w_eq,und_131,sz_155,eInt,rmap_set,spD]
 refine alt_storeR rfl rfl (row_at q6.2) rfl rfl sz_155 rfl (zH rfl) (regW.of ?_)
 simp only [seval,EMI,w_none,w_eq,sz_155,eInt,rmap_set,spD]
 refine mU e (.region λe h=>?_) h
 simp only [seval,EMI,eInt,rmap_set,spD]
 cases h
 simp only [seval,FMI,eInt,rmap_set,spD,Tryz.results174,q4]
 intro v1 q7
 refine .seqK (.sR λe h=>?_)
 simp only [seval,EMI,und_131,q7,eInt,rmap_set,spD]
 refine mU e (.condF rfl (.exit λe h=>?_)) h
 cases h
 simp only [seval,FMI,eInt,rmap_set,spD,Tryz.results174]
 intro v4
 refine Mir.toK (.seqK (.frz 0 rfl ?_))
 simp only [seval,us_0,us_s,xCA,xNA,and_self,and_true,true_and,and_false,false_and,SZ]
 refine .bind λy1 h3=>.region λe h=>?_
 simp only [seval,EMI,eInt,rmap_set,spD]
 refine SpecS.by (r01_trim_spec h3) (by simp only [seval,FMI,eInt,rmap_set,spD]) ?_
 simp only [seval,EMI,eInt,rmap_set,spD]
 refine mU e (.ret λe h=>?_) h
 cases h
 simp only [seval,FMI,eInt,rmap_set,spD,Tryz.results174]
def r01_Add (a0 : ApiInt) (a1 : ApiInt) : Option ApiInt := if (a0.Neg == a1.Neg) = true then bindO (r01_plus a0.Limbs a1.Limbs) λ(y1 : (List Int))=>bindO (r01_signed a0.Neg y1) λ(y2 : ApiInt)=>some y2 else bindO (r01_compare a0.Limbs a1.Limbs) λ(y3 : Int)=>if (decide (y3 ≥ 0)) = true then bindO (r01_minus a0.Limbs a1.Limbs) λ(y4 : (List Int))=>bindO (r01_signed a0.Neg y4) λ(y5 : ApiInt)=>some y5 else bindO (r01_minus a1.Limbs a0.Limbs) λ(y6 : (List Int))=>bindO (r01_signed a1.Neg y6) λ(y7 : ApiInt)=>some y7
theorem r01_Add_spec {a0 : ApiInt} {a1 : ApiInt} {y : ApiInt} (h : r01_Add a0 a1 = some y) : Spec gP 157 [.agg [.d (.bool a0.Neg),.d (.list (zC (eInt .u32) a0.Limbs))],.agg [.d (.bool a1.Neg),.d (.list (zC (eInt .u32) a1.Limbs))]] (.agg [.d (.bool y.Neg),.d (.list (zC (eInt .u32) y.Limbs))]) := by
 refine spec_mir Tryz.func157 rfl (by kernel_rfl) (by kernel_rfl) (λy : ApiInt=>.agg [.d (.bool y.Neg),.d (.list (zC (eInt .u32) y.Limbs))]) ?_ h
 unfold r01_Add
 simp only [zD,zF,nS,nA,Tryz.ntmps157,SV]
 refine .sR λe h=>?_
 simp only [seval,EMI,zero_133,eInt]
 refine mU e (.seqK (.sR λe h=>?_)) h
 simp only [seval,EMI,fld_133_0,sz_4,ag_4,und_4,eInt]
 refine mU e (.cond rfl (λhb4=>?_) (λhb4=>?_)) h
 refine .seqK (.bind λy1 hy5=>.bind λy2 hy6=>.regionD [] (by kernel_rfl) λe h=>?_)
 simp only [seval,EMI,SB,fld_133_0,sz_4,ag_4,fld_133_1,sz_131,ag_131,eInt]
 refine Spec.by (r01_plus_spec hy5) (by simp only [seval,FMI,eInt]) ?_
 simp only [seval,EMI,SB,eInt]
 refine Spec.by (r01_signed_spec hy6) (by simp only [seval,FMI,eInt]) ?_
 simp only [seval,EMI,SB,sz_133,eInt]
 refine mU e (.ret λe h=>?_) h
 cases h
 simp only [seval,FMI,eInt,Tryz.results157,ag_133,sz_133]
 refine .skip (Mir.toK (.seqK (.seqK (.bind λy3 hy7=>.region λe h=>?_))))
 simp only [seval,EMI,fld_133_1,sz_131,ag_131,eInt]
 refine SpecS.by (r01_compare_spec hy7) (by simp only [seval,FMI,eInt]) ?_
 simp only [seval,EMI,eInt]
 refine mU e (.cond rfl (λhb11=>?_) (λhb11=>?_)) h
 refine .seqK (.bind λy4 hy12=>.bind λy5 hy13=>.regionD [] (by kernel_rfl) λe h=>?_)
 simp only [seval,EMI,SB,fld_133_0,sz_4,ag_4,fld_133_1,sz_131,ag_131,eInt]
 refine Spec.by (r01_minus_spec hy12) (by simp only [seval,FMI,eInt]) ?_
 simp only [seval,EMI,SB,eInt]
 refine Spec.by (r01_signed_spec hy13) (by simp only [seval,FMI,eInt]) ?_
 simp only [seval,EMI,SB,sz_133,eInt]
 refine mU e (.ret λe h=>?_) h
 cases h
 simp only [seval,FMI,eInt,Tryz.results157,ag_133,sz_133]
 refine .skip (Mir.toK (.seqK (.bind λy6 hy14=>.bind λy7 hy15=>.regionD [] (by kernel_rfl) λe h=>?_)))
 simp only [seval,EMI,SB,fld_133_0,sz_4,ag_4,fld_133_1,sz_131,ag_131,eInt]
 refine Spec.by (r01_minus_spec hy14) (by simp only [seval,FMI,eInt]) ?_
 simp only [seval,EMI,SB,eInt]
 refine Spec.by (r01_signed_spec hy15) (by simp only [seval,FMI,eInt]) ?_
 simp only [seval,EMI,SB,sz_133,eInt]
 refine mU e (.ret λe h=>?_) h
 cases h
 simp only [seval,FMI,eInt,Tryz.results157,ag_133,sz_133]
def r01_Neg (a0 : ApiInt) : Option ApiInt := bindO (r01_signed (!a0.Neg) a0.Limbs) λ(y1 : ApiInt)=>some y1
theorem r01_Neg_spec {a0 : ApiInt} {y : ApiInt} (h : r01_Neg a0 = some y) : Spec gP 134 [.agg [.d (.bool a0.Neg),.d (.list (zC (eInt .u32) a0.Limbs))]] (.agg [.d (.bool y.Neg),.d (.list (zC (eInt .u32) y.Limbs))]) := by
 refine spec_mir Tryz.func134 rfl (by kernel_rfl) (by kernel_rfl) (λy : ApiInt=>.agg [.d (.bool y.Neg),.d (.list (zC (eInt .u32) y.Limbs))]) ?_ h
 unfold r01_Neg
 simp only [zD,zF,nS,nA,Tryz.ntmps134,SV]
 refine .sR λe h=>?_
 simp only [seval,EMI,zero_133,eInt]
 refine mU e (.seqK (.bind λy1 hy1=>.region λe h=>?_)) h
 simp only [seval,EMI,fld_133_0,sz_4,ag_4,fld_133_1,sz_131,ag_131,eInt]
 refine SpecS.by (r01_signed_spec hy1) (by simp only [seval,FMI,eInt]) ?_
 simp only [seval,EMI,sz_133,eInt]
 refine mU e (.ret λe h=>?_) h
 cases h
 simp only [seval,FMI,eInt,Tryz.results134,ag_133,sz_133]
def r01_Sub (a0 : ApiInt) (a1 : ApiInt) : Option ApiInt := bindO (r01_Neg a1) λ(y1 : ApiInt)=>bindO (r01_Add a0 y1) λ(y2 : ApiInt)=>some y2
theorem r01_Sub_spec {a0 : ApiInt} {a1 : ApiInt} {y : ApiInt} (h : r01_Sub a0 a1 = some y) : Spec gP 156 [.agg [.d (.bool a0.Neg),.d (.list (zC (eInt .u32) a0.Limbs))],.agg [.d (.bool a1.Neg),.d (.list (zC (eInt .u32) a1.Limbs))]] (.agg [.d (.bool y.Neg),.d (.list (zC (eInt .u32) y.Limbs))]) := by
 refine spec_mir Tryz.func156 rfl (by kernel_rfl) (by kernel_rfl) (λy : ApiInt=>.agg [.d (.bool y.Neg),.d (.list (zC (eInt .u32) y.Limbs))]) ?_ h
 unfold r01_Sub
 simp only [zD,zF,nS,nA,Tryz.ntmps156,SV]
 refine .sR λe h=>?_
 simp only [seval,EMI,zero_133,eInt]
 refine mU e (.seqK (.bind λy1 hy1=>.bind λy2 hy2=>.regionD [] (by kernel_rfl) λe h=>?_)) h
 simp only [seval,EMI,SB,ag_133,sz_133,eInt]
 refine Spec.by (r01_Neg_spec hy1) (by simp only [seval,FMI,eInt]) ?_
 simp only [seval,EMI,SB,eInt]
 refine Spec.by (r01_Add_spec hy2) (by simp only [seval,FMI,eInt]) ?_
 simp only [seval,EMI,SB,sz_133,eInt]
 refine mU e (.ret λe h=>?_) h
 cases h
 simp only [seval,FMI,eInt,Tryz.results156,ag_133,sz_133]
def r01_times (a0 : (List Int)) (a1 : (List Int)) : Option (List Int) := guardO (decide ((0 : Int) ≤ (zO.wrap ((a0.length : Int) + (a1.length : Int))))) ( guardO (okLen (zE (zO.wrap ((a0.length : Int) + (a1.length : Int))))) ( bindO (guardO (okIdx a0) ( rangeX (λ(i1 : Nat) (e1 : Int) (v1 : (List Int))=>bindO (bindO (guardO (okIdx a1) ( rangeX (λ(i2 : Nat) (e2 : Int) (v2 : Int × (List Int))=>bindO (gt v2.2 (zO.wrap ((i1 : Int) + (i2 : Int)))) λ(e3 : Int)=>bindO (gt v2.2 (zO.wrap ((i1 : Int) + (i2 : Int)))) λ(e4 : Int)=>some (.go (zQ.wrap (zG (zQ.wrap ((zQ.wrap (v2.1 + (zQ.wrap e3))) + (zQ.wrap ((zQ.wrap e1) * (zQ.wrap e2))))) 1000000000),v2.2.set (zE (zO.wrap ((i1 : Int) + (i2 : Int)))) (zP.wrap (zK (zQ.wrap ((zQ.wrap (v2.1 + (zQ.wrap e3))) + (zQ.wrap ((zQ.wrap e1) * (zQ.wrap e2))))) 1000000000))))) (λ(v2 : Int × (List Int))=>some (v2.1,v2.2)) a1 0 (0,v1))) λ(v3 : Int × (List Int))=>bindO (gt v3.2 (zO.wrap ((i1 : Int) + (a1.length : Int)))) λ(e5 : Int)=>some (v3.2.set (zE (zO.wrap ((i1 : Int) + (a1.length : Int)))) (zP.wrap v3.1))) λ(v4 : (List Int))=>some (.go v4)) (λ(v1 : (List Int))=>some v1) a0 0 (zD (zE (zO.wrap ((a0.length : Int) + (a1.length : Int)))) (0 : Int)))) λ(v5 : (List Int))=>bindO (r01_trim v5) λ(y1 : (List Int))=>some y1))
theorem r01_times_spec {a0 : (List Int)} {a1 : (List Int)} {y : (List Int)} (h : r01_times a0 a1 = some y) : Spec gP 158 [.d (.list (zC (eInt .u32) a0)),.d (.list (zC (eInt .u32) a1))] (.d (.list (zC (eInt .u32) y))) := by
 refine spec_mir Tryz.func158 rfl (by kernel_rfl) (by kernel_rfl) (λy : (List Int)=>.d (.list (zC (eInt .u32) y))) ?_ h
 unfold r01_times
 simp only [zD,zF,nS,nA,Tryz.ntmps158,SV]
 refine .sR λe h=>?_
 simp only [seval,EMI,eInt,rmap_set,spD]
 refine mU e (.seqK (.guard λq1=>.guard λq2=>.regionW λe h=>regW.alt 5 rfl ?_)) h
 simp only [seval,EMI,w_none,w_eq,und_131,eInt,rmap_set,spD]
 refine alt_makeM (en := (eInt .u32)) (z := 0) rfl rfl app_131 zero_155 rfl rfl (of_decide_eq_true q1) q2 (regW.of ?_)
 simp only [seval,EMI,w_none,w_eq,eInt,rmap_set,spD]
 refine mU e (.seqK (.sR λe h=>?_)) h
 simp only [seval,EMI,eInt,rmap_set,spD]
 refine mU e (Mir.joinO (λv5 : (List Int)=>([U,U,U,U,U,.gr 0 0] ++ us 62)) (λv5=>⟨[[.rowc 155 0 (zC (eInt .u32) v5)]],[]⟩) (λ_=>rfl) ?_ ?_) h
 refine .block (.guard λq3=>Mir.range (λ(i1 : Nat) (v1 : (List Int))=>([.d (.list (zC (eInt .u32) a0)),.d (.list (zC (eInt .u32) a1)),U,U,U,.gr 0 0,.d (.int .i64 (i1 : Int))] ++ us 61)) (λi1 v1=>⟨[[.rowc 155 0 (zC (eInt .u32) v1)]],[]⟩) q3 (λ_ _=>rfl) (by simp only [seval,FMI,eInt,rmap_set,spD,zNI]) (by simp only [seval,FMI,eInt,rmap_set,spD,zNI]) ?_ ?_)
 intro i1 e1 v1 q4
 refine .seqK (.sR λe h=>?_)
 simp only [seval,EMI,und_131,q4,eInt,rmap_set,spD]
 refine mU e (.condT rfl (.skip (Mir.toK (.seqK (Mir.joinO (λv4 : (List Int)=>([.d (.list (zC (eInt .u32) a0)),.d (.list (zC (eInt .u32) a1)),U,U,U,.gr 0 0,.d (.int .i64 (i1 : Int))] ++ us 61)) (λv4=>⟨[[.rowc 155 0 (zC (eInt .u32) v4)]],[]⟩) (λ_=>rfl) ?_ ?_))))) h
 refine .block (.sR λe h=>?_)
 simp only [seval,EMI,eInt,rmap_set,spD]
 refine mU e (.seqK (.sR λe h=>?_)) h
 simp only [seval,EMI,eInt,rmap_set,spD]
 refine mU e (Mir.joinO (λv3 : Int × (List Int)=>([.d (.list (zC (eInt .u32) a0)),.d (.list (zC (eInt .u32) a1)),U,U,U,.gr 0 0,.d (.int .i64 (i1 : Int)),.d (.int .u64 v3.1)] ++ us 60)) (λv3=>⟨[[.rowc 155 0 (zC (eInt .u32) v3.2)]],[]⟩) (λ_=>rfl) ?_ ?_) h
 refine .block (.guard λq5=>Mir.range (λ(i2 : Nat) (v2 : Int × (List Int))=>([.d (.list (zC (eInt .u32) a0)),.d (.list (zC (eInt .u32) a1)),U,U,U,.gr 0 0,.d (.int .i64 (i1 : Int)),.d (.int .u64 v2.1),.d (.int .i64 (i2 : Int))] ++ us 59)) (λi2 v2=>⟨[[.rowc 155 0 (zC (eInt .u32) v2.2)]],[]⟩) q5 (λ_ _=>rfl) (by simp only [seval,FMI,eInt,rmap_set,spD,zNI]) (by simp only [seval,FMI,eInt,rmap_set,spD,zNI]) ?_ ?_)
 intro i2 e2 v2 q6
 refine .seqK (.sR λe h=>?_)
 simp only [seval,EMI,und_131,q6,eInt,rmap_set,spD]
 refine mU e (.condT rfl (.skip (Mir.toK (.seqK (.block (.seqK (.bind λe3 q7=>?_))))))) h
 replace q7 := gt_ok q7
 refine Mir.regionS (by kernel_rfl) λe h=>stW.alt 5 rfl (by kernel_rfl) ?_
 simp only [seval,EMI,w_none,w_eq,eInt,rmap_set,spD]
 refine st_indexR rfl rfl rfl und_131 sz_155 (row_lo q7.1) (row_hi q7.2 q7.1) (stW.alt 0 rfl (by kernel_rfl) ?_)
 simp only [seval,EMI,w_none,w_eq,und_131,sz_155,eInt,rmap_set,spD]
 refine st_loadR rfl rfl (row_at q7.2) (by simp only [↓reduceIte,nA,nL,pt_eq,ag_155,sz_155,dc_cons,dc_nil,SV,eInt] <;> rfl) (stW.of (by kernel_rfl) ?_)
 simp only [seval,EMI,w_none,w_eq,ag_155,sz_155,und_155,und_89,und_131,q4,zI,q6,eInt,rmap_set,spD]
 refine mU e (.seqK (.bind λe4 q8=>?_)) h
 replace q8 := gt_ok q8
 refine .regionW λe h=>regW.alt 7 rfl ?_
 simp only [seval,EMI,w_none,w_eq,und_89,und_155,eInt,rmap_set,spD]
 refine alt_indexR rfl rfl rfl und_131 sz_155 (row_lo q8.1) (row_hi q8.2 q8.1) (regW.alt 0 rfl ?_)
 simp only [seval,EMI,w_none,w_eq,und_131,sz_155,eInt,rmap_set,spD]
 refine alt_storeR rfl rfl (row_at q8.2) rfl rfl sz_155 rfl (zH rfl) (regW.of ?_)
 simp only [seval,EMI,w_none,w_eq,sz_155,eInt,rmap_set,spD]
 refine mU e (.region λe h=>?_) h
 simp only [seval,EMI,eInt,rmap_set,spD]
 refine mU e (.region λe h=>?_) h
 simp only [seval,EMI,eInt,rmap_set,spD]
 cases h
 simp only [seval,FMI,eInt,rmap_set,spD,Tryz.results158,q6]
 intro v2 q9
 refine .seqK (.sR λe h=>?_)
 simp only [seval,EMI,und_131,q9,eInt,rmap_set,spD]
 refine mU e (.condF rfl (.exit λe h=>?_)) h
 cases h
 simp only [seval,FMI,eInt,rmap_set,spD,Tryz.results158]
 intro v3
 refine Mir.toK (.bind λe5 q10=>?_)
 replace q10 := gt_ok q10
 refine .regionW λe h=>regW.alt 7 rfl ?_
 simp only [seval,EMI,w_none,w_eq,und_131,und_89,und_155,eInt,rmap_set,spD]
 refine alt_indexR rfl rfl rfl und_131 sz_155 (row_lo q10.1) (row_hi q10.2 q10.1) (regW.alt 0 rfl ?_)
 simp only [seval,EMI,w_none,w_eq,und_131,sz_155,eInt,rmap_set,spD]
 refine alt_storeR rfl rfl (row_at q10.2) rfl rfl sz_155 rfl (zH rfl) (regW.of ?_)
 simp only [seval,EMI,w_none,w_eq,sz_155,eInt,rmap_set,spD]
 cases h
 simp only [seval,FMI,eInt,rmap_set,spD,Tryz.results158]
 intro v4
 refine Mir.toK (.region λe h=>?_)
 simp only [seval,EMI,eInt,rmap_set,spD]
 cases h
 simp only [seval,FMI,eInt,rmap_set,spD,Tryz.results158,q4]
 intro v1 q11
 refine .seqK (.sR λe h=>?_)
 simp only [seval,EMI,und_131,q11,eInt,rmap_set,spD]
 refine mU e (.condF rfl (.exit λe h=>?_)) h
 cases h
 simp only [seval,FMI,eInt,rmap_set,spD,Tryz.results158]
 intro v5
 refine Mir.toK (.seqK (.frz 0 rfl ?_))
 simp only [seval,us_0,us_s,xCA,xNA,and_self,and_true,true_and,and_false,false_and,SZ]
 refine .bind λy1 h1=>.region λe h=>?_
 simp only [seval,EMI,eInt,rmap_set,spD]
 refine SpecS.by (r01_trim_spec h1) (by simp only [seval,FMI,eInt,rmap_set,spD]) ?_
 simp only [seval,EMI,eInt,rmap_set,spD]
 refine mU e (.ret λe h=>?_) h
 cases h
 simp only [seval,FMI,eInt,rmap_set,spD,Tryz.results158]
def r01_Mul (a0 : ApiInt) (a1 : ApiInt) : Option ApiInt := bindO (r01_times a0.Limbs a1.Limbs) λ(y1 : (List Int))=>bindO (r01_signed (!(a0.Neg == a1.Neg)) y1) λ(y2 : ApiInt)=>some y2
theorem r01_Mul_spec {a0 : ApiInt} {a1 : ApiInt} {y : ApiInt} (h : r01_Mul a0 a1 = some y) : Spec gP 121 [.agg [.d (.bool a0.Neg),.d (.list (zC (eInt .u32) a0.Limbs))],.agg [.d (.bool a1.Neg),.d (.list (zC (eInt .u32) a1.Limbs))]] (.agg [.d (.bool y.Neg),.d (.list (zC (eInt .u32) y.Limbs))]) := by
 refine spec_mir Tryz.func121 rfl (by kernel_rfl) (by kernel_rfl) (λy : ApiInt=>.agg [.d (.bool y.Neg),.d (.list (zC (eInt .u32) y.Limbs))]) ?_ h
 unfold r01_Mul
 simp only [zD,zF,nS,nA,Tryz.ntmps121,SV]
 refine .sR λe h=>?_
 simp only [seval,EMI,zero_133,eInt]
 refine mU e (.seqK (.bind λy1 hy1=>.bind λy2 hy2=>.regionD [] (by kernel_rfl) λe h=>?_)) h
 simp only [seval,EMI,SB,fld_133_0,sz_4,ag_4,und_4,fld_133_1,sz_131,ag_131,eInt]
 refine Spec.by (r01_times_spec hy1) (by simp only [seval,FMI,eInt]) ?_
 simp only [seval,EMI,SB,eInt]
 refine Spec.by (r01_signed_spec hy2) (by simp only [seval,FMI,eInt]) ?_
 simp only [seval,EMI,SB,sz_133,eInt]
 refine mU e (.ret λe h=>?_) h
 cases h
 simp only [seval,FMI,eInt,Tryz.results121,ag_133,sz_133]
def r01_short (a0 : (List Int)) : Option Int := bindO (loopX (λ(v1 : Int × Int)=>if (decide (v1.2 ≥ 0)) = true then bindO (gt a0 v1.2) λ(e1 : Int)=>some (.go (zQ.wrap ((zQ.wrap (v1.1 * 1000000000)) + (zQ.wrap e1)),zO.wrap (v1.2 - 1))) else some (.ret v1.1)) fuel (0,zO.wrap ((a0.length : Int) - 1))) λ(v2 : Int)=>some v2
theorem r01_short_spec {a0 : (List Int)} {y : Int} (h : r01_short a0 = some y) : Spec gP 154 [.d (.list (zC (eInt .u32) a0))] (.d (.int .u64 y)) := by
 refine spec_mir Tryz.func154 rfl (by kernel_rfl) (by kernel_rfl) (λy : Int=>.d (.int .u64 y)) ?_ h
 unfold r01_short
 simp only [zD,zF,nS,nA,Tryz.ntmps154,SV]
 refine .sR λe h=>?_
 simp only [seval,EMI,eInt]
 refine mU e (.sR λe h=>?_) h
 simp only [seval,EMI,eInt]
 refine mU e (.seqK (.sR λe h=>?_)) h
 simp only [seval,EMI,und_131,eInt]
 refine mU e (Mir.joinO (λv2 : Int=>([U,U,U,.d (.int .u64 v2)] ++ us 17)) (λv2=>⟨[],[]⟩) (λ_=>rfl) ?_ ?_) h
 refine .block (Mir.loop (λv1 : Int × Int=>([.d (.list (zC (eInt .u32) a0)),U,U,.d (.int .u64 v1.1),.d (.int .i64 v1.2)] ++ us 16)) (λv1=>⟨[],[]⟩) (λ_=>rfl) (by simp only [seval,FMI,eInt]) (by simp only [seval,FMI,eInt]) λv1=>.seqK (.sR λe h=>?_))
 simp only [seval,EMI,eInt]
 refine mU e (.cond rfl (λhb22=>?_) (λhb22=>?_)) h
 refine .skip (Mir.toK (.seqK (.block (.bind λe1 q24=>?_))))
 replace q24 := gt_ok q24
 refine .region λe h=>?_
 simp only [seval,EMI,und_131,sz_155,q24,ag_155,und_155,und_89,eInt]
 refine mU e (.region λe h=>?_) h
 simp only [seval,EMI,eInt]
 cases h
 simp only [seval,FMI,eInt,Tryz.results154]
 refine .exit λe h=>?_
 cases h
 simp only [seval,FMI,eInt,Tryz.results154]
 intro v2
 refine Mir.toK (.sR λe h=>?_)
 simp only [seval,EMI,eInt]
 refine mU e (.ret λe h=>?_) h
 cases h
 simp only [seval,FMI,eInt,Tryz.results154]
def r01_limbs (a0 : Int) : Option (List Int) := bindO (loopX (λ(v1 : Int × (List Int))=>if (decide (v1.1 > 0)) = true then guardO (okLen (v1.2.length + 1)) ( some (.go (zQ.wrap (zG v1.1 1000000000),v1.2 ++ [zP.wrap (zK v1.1 1000000000)]))) else some (.ret v1.2)) fuel (a0,[])) λ(v2 : (List Int))=>some v2
theorem r01_limbs_spec {a0 : Int} {y : (List Int)} (h : r01_limbs a0 = some y) : Spec gP 131 [.d (.int .u64 a0)] (.d (.list (zC (eInt .u32) y))) := by
 refine spec_mir Tryz.func131 rfl (by kernel_rfl) (by kernel_rfl) (λy : (List Int)=>.d (.list (zC (eInt .u32) y))) ?_ h
 unfold r01_limbs
 simp only [zD,zF,nS,nA,Tryz.ntmps131,SV]
 refine .sR λe h=>?_
 simp only [seval,EMI,eInt]
 refine mU e (.sR λe h=>?_) h
 simp only [seval,EMI,eInt]
 refine mU e (.seqK (.gh [.slot 3 155] rfl (Mir.joinO (λv2 : (List Int)=>([U,U,U,.own 0 (zC (eInt .u32) v2)] ++ us 11)) (λv2=>⟨[],[(155,v2.length)]⟩) (λ_=>rfl) ?_ ?_))) h
 refine .block (Mir.loop (λv1 : Int × (List Int)=>([.d (.int .u64 v1.1),U,U,.own 0 (zC (eInt .u32) v1.2)] ++ us 11)) (λv1=>⟨[],[(155,v1.2.length)]⟩) (λ_=>rfl) (by simp only [seval,FMI,eInt]) (by simp only [seval,FMI,eInt]) λv1=>.seqK (.sR λe h=>?_))
 simp only [seval,EMI,eInt]
 refine mU e (.cond rfl (λhb25=>?_) (λhb25=>?_)) h
 refine .skip (Mir.toK (.block (.seqK (.guard λq26=>.region λe h=>?_))))
 simp only [seval,EMI,und_89,und_155,und_131,sz_155,zero_155,(oL 1),app_131,al_eInt,q26,eInt]
 refine mU e (.region λe h=>?_) h
 simp only [seval,EMI,eInt]
 cases h
 simp only [seval,FMI,eInt,Tryz.results131]
 refine .exit λe h=>?_
 cases h
 simp only [seval,FMI,eInt,Tryz.results131]
 intro v2
 refine Mir.toK (.sR λe h=>?_)
 simp only [seval,EMI,eInt]
 refine mU e (.ret λe h=>?_) h
 cases h
 simp only [seval,FMI,eInt,Tryz.results131]
def r01_by (a0 : (List Int)) (a1 : Int) : Option (List Int) := bindO (r01_trim [a1]) λ(y1 : (List Int))=>bindO (r01_times a0 y1) λ(y2 : (List Int))=>some y2
theorem r01_by_spec {a0 : (List Int)} {a1 : Int} {y : (List Int)} (h : r01_by a0 a1 = some y) : Spec gP 173 [.d (.list (zC (eInt .u32) a0)),.d (.int .u32 a1)] (.d (.list (zC (eInt .u32) y))) := by
 refine spec_mir Tryz.func173 rfl (by kernel_rfl) (by kernel_rfl) (λy : (List Int)=>.d (.list (zC (eInt .u32) y))) ?_ h
 unfold r01_by
 simp only [zD,zF,nS,nA,Tryz.ntmps173,SV]
 refine .sR λe h=>?_
 simp only [seval,EMI,eInt]
 refine mU e (.seqK (.bind λy1 hy1=>.bind λy2 hy2=>.region λe h=>?_)) h
 simp only [seval,EMI,und_131,sz_155,zero_155,(oL 1),eInt]
 refine SpecS.by (r01_trim_spec hy1) (by simp only [seval,FMI,eInt]) ?_
 simp only [seval,EMI,eInt]
 refine SpecS.by (r01_times_spec hy2) (by simp only [seval,FMI,eInt]) ?_
 simp only [seval,EMI,eInt]
 refine mU e (.ret λe h=>?_) h
 cases h
 simp only [seval,FMI,eInt,Tryz.results173]
def r01_parts (a0 : (List Int)) (a1 : (List Int)) : Option ((List Int) × (List Int)) := if ((decide ((a0.length : Int) ≤ 2)) && (decide ((a1.length : Int) ≤ 2))) = true then bindO (r01_short a0) λ(y1 : Int)=>bindO (r01_short a1) λ(y2 : Int)=>guardO (!(y2 == 0)) ( bindO (r01_limbs (zQ.wrap (zG y1 y2))) λ(y3 : (List Int))=>guardO (!(y2 == 0)) ( bindO (r01_limbs (zK y1 y2)) λ(y4 : (List Int))=>some (y3,y4))) else bindO (gt a1 (zO.wrap ((a1.length : Int) - 1))) λ(e1 : Int)=>guardO (!((zQ.wrap ((zQ.wrap e1) + 1)) == 0)) ( bindO (r01_by a1 (zP.wrap (zQ.wrap (zG 1000000000 (zQ.wrap ((zQ.wrap e1) + 1)))))) λ(y5 : (List Int))=>bindO (gt y5 (zO.wrap ((y5.length : Int) - 1))) λ(e2 : Int)=>guardO (decide ((0 : Int) ≤ (zO.wrap ((a0.length : Int) + 1)))) ( guardO (okLen (zE (zO.wrap ((a0.length : Int) + 1)))) ( bindO (r01_by a0 (zP.wrap (zQ.wrap (zG 1000000000 (zQ.wrap ((zQ.wrap e1) + 1)))))) λ(y6 : (List Int))=>guardO (decide ((0 : Int) ≤ (0 : Int) ∧ (0 : Int) ≤ (y6.length : Int) ∧ (y6.length : Int) ≤ (((zD (zE (zO.wrap ((a0.length : Int) + 1))) (0 : Int)).length : Nat) : Int))) ( bindO (loopX (λ(v1 : (List Int) × Int × (List Int))=>if (decide (v1.2.1 ≥ 0)) = true then bindO (bindO (gt y6 v1.2.1) λ(e3 : Int)=>guardO (okLen (1 + v1.1.length)) ( bindO (r01_trim ([e3] ++ v1.1)) λ(y7 : (List Int))=>bindO (if (decide ((y7.length : Int) > (y5.length : Int))) = true then bindO (gt y7 (y5.length : Int)) λ(e4 : Int)=>some (zQ.wrap ((zQ.wrap e4) * 1000000000)) else some 0) λ(v2 : Int)=>bindO (if (decide ((y7.length : Int) ≥ (y5.length : Int))) = true then bindO (gt y7 (zO.wrap ((y5.length : Int) - 1))) λ(e5 : Int)=>some (zQ.wrap (v2 + (zQ.wrap e5))) else some v2) λ(v3 : Int)=>guardO (!((zQ.wrap e2) == 0)) ( bindO (if (decide ((zQ.wrap (zG v3 (zQ.wrap e2))) > 999999999)) = true then some 999999999 else some (zQ.wrap (zG v3 (zQ.wrap e2)))) λ(v4 : Int)=>bindO (r01_by y5 (zP.wrap v4)) λ(y8 : (List Int))=>bindO (loopX (λ(v5 : Int × (List Int))=>bindO (r01_compare v5.2 y7) λ(y9 : Int)=>if (decide (y9 > 0)) = true then bindO (r01_minus v5.2 y5) λ(y10 : (List Int))=>some (.go (zQ.wrap (v5.1 - 1),y10)) else some (.ret (v5.1,v5.2))) fuel (v4,y8)) λ(v6 : Int × (List Int))=>bindO (r01_minus y7 v6.2) λ(y11 : (List Int))=>guardO (decide (0 ≤ v1.2.1 ∧ v1.2.1 < (((zE (y6.length : Int)) - 0 : Nat) : Int))) ( bindO (gt v1.2.2 ((0 + zE v1.2.1 : Nat) : Int)) λ(e6 : Int)=>some (y11,v1.2.2.set ((0 + zE v1.2.1)) (zP.wrap v6.1)))))) λ(v7 : (List Int) × (List Int))=>some (.go (v7.1,zO.wrap (v1.2.1 - 1),v7.2)) else some (.ret (v1.1,v1.2.2))) fuel ([],zO.wrap ((y6.length : Int) - 1),zD (zE (zO.wrap ((a0.length : Int) + 1))) (0 : Int))) λ(v8 : (List Int) × (List Int))=>guardO (decide ((0 : Int) ≤ (v8.1.length : Int))) ( guardO (okLen (zE (v8.1.length : Int))) ( bindO (loopX (λ(v9 : Int × Int × (List Int))=>if (decide (v9.2.1 ≥ 0)) = true then bindO (gt v8.1 v9.2.1) λ(e7 : Int)=>guardO (!((zQ.wrap (zP.wrap (zQ.wrap (zG 1000000000 (zQ.wrap ((zQ.wrap e1) + 1)))))) == 0)) ( bindO (gt v9.2.2 v9.2.1) λ(e8 : Int)=>guardO (!((zQ.wrap (zP.wrap (zQ.wrap (zG 1000000000 (zQ.wrap ((zQ.wrap e1) + 1)))))) == 0)) ( some (.go (zK (zQ.wrap ((zQ.wrap (v9.1 * 1000000000)) + (zQ.wrap e7))) (zQ.wrap (zP.wrap (zQ.wrap (zG 1000000000 (zQ.wrap ((zQ.wrap e1) + 1)))))),zO.wrap (v9.2.1 - 1),v9.2.2.set (zE v9.2.1) (zP.wrap (zQ.wrap (zG (zQ.wrap ((zQ.wrap (v9.1 * 1000000000)) + (zQ.wrap e7))) (zQ.wrap (zP.wrap (zQ.wrap (zG 1000000000 (zQ.wrap ((zQ.wrap e1) + 1))))))))))))) else some (.ret v9.2.2)) fuel (0,zO.wrap ((v8.1.length : Int) - 1),zD (zE (v8.1.length : Int)) (0 : Int))) λ(v10 : (List Int))=>guardO (decide (0 + ((zE (y6.length : Int)) - 0) ≤ v8.2.length)) ( bindO (r01_trim (List.take ((zE (y6.length : Int)) - 0) (List.drop (0) v8.2))) λ(y12 : (List Int))=>bindO (r01_trim v10) λ(y13 : (List Int))=>some (y12,y13))))))))
theorem r01_parts_spec {a0 : (List Int)} {a1 : (List Int)} {y : (List Int) × (List Int)} (h : r01_parts a0 a1 = some y) : Spec gP 155 [.d (.list (zC (eInt .u32) a0)),.d (.list (zC (eInt .u32) a1))] (.tuple [.d (.list (zC (eInt .u32) y.1)),.d (.list (zC (eInt .u32) y.2))]) := by
 refine spec_mir Tryz.func155 rfl (by kernel_rfl) (by kernel_rfl) (λy : (List Int) × (List Int)=>.tuple [.d (.list (zC (eInt .u32) y.1)),.d (.list (zC (eInt .u32) y.2))]) ?_ h
 unfold r01_parts
 simp only [zD,zF,nS,nA,Tryz.ntmps155,SV]
 refine .sR λe h=>?_
 simp only [seval,EMI,eInt,rmap_set,spD]
 refine mU e (.seqK (.seqK (.joinV ([.d (.list (zC (eInt .u32) a0)),.d (.list (zC (eInt .u32) a1)),U,U,U,U,U,U,U,U,U,U,U,U,U,U,U,U,U,U,U,U,U,U,U,U,U,U,.d (.bool ((decide ((a0.length : Int) ≤ 2)) && (decide ((a1.length : Int) ≤ 2))))] ++ us 144) ⟨[],[]⟩ rfl ?_ ?_))) h
 refine SWs.region ?_
 rcases zJ (decide ((a0.length : Int) ≤ 2)) with hb1 | hb1
 simp only [seval,EMI,SL,PB,und_131,hb1,eInt,rmap_set,spD]
 simp only [seval,EMI,SL,PB,und_131,hb1,eInt,rmap_set,spD]
 refine Mir.toK (.cond rfl (λhb9=>?_) (λhb9=>?_))
 refine .seqK (.bind λy1 hy10=>.bind λy2 hy11=>.region λe h=>?_)
 simp only [seval,EMI,eInt,rmap_set,spD]
 refine SpecS.by (r01_short_spec hy10) (by simp only [seval,FMI,eInt,rmap_set,spD]) ?_
 simp only [seval,EMI,eInt,rmap_set,spD]
 refine SpecS.by (r01_short_spec hy11) (by simp only [seval,FMI,eInt,rmap_set,spD]) ?_
 simp only [seval,EMI,eInt,rmap_set,spD]
 refine mU e (.seqK (.guard λq12=>?_)) h
 replace q12 := ne_of q12
 refine .bind λy3 hy13=>.guard λq14=>?_
 replace q14 := ne_of q14
 refine .bind λy4 hy15=>.regionD [] (by kernel_rfl) λe h=>?_
 simp only [seval,EMI,SB,q12,eInt,rmap_set,spD]
 refine Spec.by (r01_limbs_spec hy13) (by simp only [seval,FMI,eInt,rmap_set,spD]) ?_
 simp only [seval,EMI,SB,q14,eInt,rmap_set,spD]
 refine Spec.by (r01_limbs_spec hy15) (by simp only [seval,FMI,eInt,rmap_set,spD]) ?_
 simp only [seval,EMI,SB,eInt,rmap_set,spD]
 refine mU e (.ret λe h=>?_) h
 cases h
 simp only [seval,FMI,eInt,rmap_set,spD,Tryz.results155]
 refine .skip (Mir.toK (.seqK (.bind λe1 q16=>?_)))
 replace q16 := gt_ok q16
 refine .guard λq17=>?_
 replace q17 := ne_of q17
 refine .region λe h=>?_
 simp only [seval,EMI,und_131,sz_155,q16,ag_155,und_155,und_89,q17,eInt,rmap_set,spD]
 refine mU e (.seqK (.bind λy5 hy18=>.region λe h=>?_)) h
 simp only [seval,EMI,eInt,rmap_set,spD]
 refine SpecS.by (r01_by_spec hy18) (by simp only [seval,FMI,eInt,rmap_set,spD]) ?_
 simp only [seval,EMI,eInt,rmap_set,spD]
 refine mU e (.seqK (.bind λe2 q19=>?_)) h
 replace q19 := gt_ok q19
 refine .region λe h=>?_
 simp only [seval,EMI,und_131,sz_155,q19,ag_155,und_155,und_89,eInt,rmap_set,spD]
 refine mU e (.sR λe h=>?_) h
 simp only [seval,EMI,eInt,rmap_set,spD]
 refine mU e (.seqK (.guard λq20=>.guard λq21=>.regionW λe h=>regW.alt 3 rfl ?_)) h
 simp only [seval,EMI,w_none,w_eq,und_131,eInt,rmap_set,spD]
 refine alt_makeM (en := (eInt .u32)) (z := 0) rfl rfl app_131 zero_155 rfl rfl (of_decide_eq_true q20) q21 (regW.of ?_)
 simp only [seval,EMI,w_none,w_eq,eInt,rmap_set,spD]
 refine mU e (.seqK (.bind λy6 hy22=>.region λe h=>?_)) h
 simp only [seval,EMI,eInt,rmap_set,spD]
 refine SpecS.by (r01_by_spec hy22) (by simp only [seval,FMI,eInt,rmap_set,spD]) ?_
 simp only [seval,EMI,eInt,rmap_set,spD]
 refine mU e (.seqK (.guard λq23=>?_)) h
 replace q23 := gsl_of q23
 refine .regionW λe h=>regW.alt 3 rfl ?_
 simp only [seval,EMI,w_none,w_eq,und_131,eInt,rmap_set,spD]
 refine alt_sliceR (l := 0) (h := zE (y6.length : Int)) rfl rfl und_131 sz_155 (by simp only [seval,EMI,bd_some,bd_none,Option.map_some,Option.map_none,lm,q23.1,q23.2.1]) (by simp only [seval,EMI,bd_some,bd_none,Option.map_some,Option.map_none,lm,q23.1,q23.2.1]) (Nat.zero_le _) (by rw [lm]; exact q23.2.2.2) (regW.of ?_)
 simp only [seval,EMI,w_none,w_eq,und_131,eInt,rmap_set,spD]
 refine mU e (.seqK (.sR λe h=>?_)) h
 simp only [seval,EMI,und_131,eInt,rmap_set,spD]
 refine mU e (Mir.joinO (λv8 : (List Int) × (List Int)=>([U,U,U,U,U,U,U,U,.d (.int .u32 (zP.wrap (zQ.wrap (zG 1000000000 (zQ.wrap ((zQ.wrap e1) + 1)))))),U,U,.d (.list (zC (eInt .u32) v8.1)),.gs 0 0 0 ((zE (y6.length : Int)) - 0)] ++ us 160)) (λv8=>⟨[[.rowc 155 0 (zC (eInt .u32) v8.2)]],[]⟩) (λ_=>rfl) ?_ ?_) h
 refine .block (Mir.loop (λv1 : (List Int) × Int × (List Int)=>([U,U,U,U,U,U,U,U,.d (.int .u32 (zP.wrap (zQ.wrap (zG 1000000000 (zQ.wrap ((zQ.wrap e1) + 1)))))),.d (.list (zC (eInt .u32) y5)),.d (.int .u64 (zQ.wrap e2)),.d (.list (zC (eInt .u32) v1.1)),.gs 0 0 0 ((zE (y6.length : Int)) - 0),.d (.list (zC (eInt .u32) y6)),.d (.int .i64 v1.2.1)] ++ us 158)) (λv1=>⟨[[.rowc 155 0 (zC (eInt .u32) v1.2.2)]],[]⟩) (λ_=>rfl) (by simp only [seval,FMI,eInt,rmap_set,spD]) (by simp only [seval,FMI,eInt,rmap_set,spD]) λv1=>.seqK (.sR λe h=>?_))
 simp only [seval,EMI,eInt,rmap_set,spD]
 refine mU e (.cond rfl (λh2=>?_) (λh2=>?_)) h
 refine .skip (Mir.toK (.seqK (Mir.joinO (λv7 : (List Int) × (List Int)=>([U,U,U,U,U,U,U,U,.d (.int .u32 (zP.wrap (zQ.wrap (zG 1000000000 (zQ.wrap ((zQ.wrap e1) + 1)))))),.d (.list (zC (eInt .u32) y5)),.d (.int .u64 (zQ.wrap e2)),.d (.list (zC (eInt .u32) v7.1)),.gs 0 0 0 ((zE (y6.length : Int)) - 0),.d (.list (zC (eInt .u32) y6)),.d (.int .i64 v1.2.1)] ++ us 158)) (λv7=>⟨[[.rowc 155 0 (zC (eInt .u32) v7.2)]],[]⟩) (λ_=>rfl) ?_ ?_)))
 refine .block (.seqK (.bind λe3 q1=>?_))
 replace q1 := gt_ok q1
 refine .guard λq2=>.bind λy7 h3=>.regionW λe h=>regW.alt 4 rfl ?_
 simp only [seval,EMI,w_none,w_eq,und_131,sz_155,q1,ag_155,eInt,rmap_set,spD]
 refine alt_litOwn (es := zC (eInt .u32) [e3]) app_131 (by simp only [seval,EMI,und_131,sz_155,zero_155,(oL 1),eInt,rmap_set,spD]) (by decide) (regW.of ?_)
 simp only [seval,EMI,w_none,w_eq,und_131,sz_155,zero_155,(oL 1),app_131,al_eInt,q2,eInt,rmap_set,spD]
 refine SpecS.by (r01_trim_spec h3) (by simp only [seval,FMI,eInt,rmap_set,spD]) ?_
 simp only [seval,EMI,w_none,w_eq,eInt,rmap_set,spD]
 refine mU e (.sR λe h=>?_) h
 simp only [seval,EMI,eInt,rmap_set,spD]
 refine mU e (.seqK (.sR λe h=>?_)) h
 simp only [seval,EMI,und_131,eInt,rmap_set,spD]
 refine mU e (Mir.joinO (λv2 : Int=>([U,U,U,U,U,U,U,U,.d (.int .u32 (zP.wrap (zQ.wrap (zG 1000000000 (zQ.wrap ((zQ.wrap e1) + 1)))))),.d (.list (zC (eInt .u32) y5)),.d (.int .u64 (zQ.wrap e2)),.d (.list (zC (eInt .u32) y7)),.gs 0 0 0 ((zE (y6.length : Int)) - 0),.d (.list (zC (eInt .u32) y6)),.d (.int .i64 v1.2.1),.d (.int .u64 v2)] ++ us 157)) (λv2=>⟨[[.rowc 155 0 (zC (eInt .u32) v1.2.2)]],[(155,1 + v1.1.length)]⟩) (λ_=>rfl) ?_ ?_) h
 refine .cond rfl (λh4=>?_) (λh4=>?_)
 refine .bind λe4 q3=>?_
 replace q3 := gt_ok q3
 refine .region λe h=>?_
 simp only [seval,EMI,und_131,sz_155,q3,ag_155,und_155,und_89,eInt,rmap_set,spD]
 cases h
 simp only [seval,FMI,eInt,rmap_set,spD,Tryz.results155]
 refine .skip λe h=>?_
 cases h
 simp only [seval,FMI,eInt,rmap_set,spD,Tryz.results155]
 intro v2
 refine Mir.toK (.seqK (.sR λe h=>?_))
 simp only [seval,EMI,und_131,eInt,rmap_set,spD]
 refine mU e (Mir.joinO (λv3 : Int=>([U,U,U,U,U,U,U,U,.d (.int .u32 (zP.wrap (zQ.wrap (zG 1000000000 (zQ.wrap ((zQ.wrap e1) + 1)))))),.d (.list (zC (eInt .u32) y5)),.d (.int .u64 (zQ.wrap e2)),.d (.list (zC (eInt .u32) y7)),.gs 0 0 0 ((zE (y6.length : Int)) - 0),.d (.list (zC (eInt .u32) y6)),.d (.int .i64 v1.2.1),.d (.int .u64 v3)] ++ us 157)) (λv3=>⟨[[.rowc 155 0 (zC (eInt .u32) v1.2.2)]],[(155,1 + v1.1.length)]⟩) (λ_=>rfl) ?_ ?_) h
 refine .cond rfl (λh5=>?_) (λh5=>?_)
 refine .bind λe5 q4=>?_
 replace q4 := gt_ok q4
 refine .region λe h=>?_
 simp only [seval,EMI,und_131,sz_155,q4,ag_155,und_155,und_89,eInt,rmap_set,spD]
 cases h
 simp only [seval,FMI,eInt,rmap_set,spD,Tryz.results155]
 refine .skip λe h=>?_
 cases h
 simp only [seval,FMI,eInt,rmap_set,spD,Tryz.results155]
 intro v3
 refine Mir.toK (.seqK (.guard λq5=>?_))
 replace q5 := ne_of q5
 refine .region λe h=>?_
 simp only [seval,EMI,q5,eInt,rmap_set,spD]
 refine mU e (.seqK (.sR λe h=>?_)) h
 simp only [seval,EMI,eInt,rmap_set,spD]
 refine mU e (Mir.joinO (λv4 : Int=>([U,U,U,U,U,U,U,U,.d (.int .u32 (zP.wrap (zQ.wrap (zG 1000000000 (zQ.wrap ((zQ.wrap e1) + 1)))))),.d (.list (zC (eInt .u32) y5)),.d (.int .u64 (zQ.wrap e2)),.d (.list (zC (eInt .u32) y7)),.gs 0 0 0 ((zE (y6.length : Int)) - 0),.d (.list (zC (eInt .u32) y6)),.d (.int .i64 v1.2.1),U,.d (.int .u64 v4)] ++ us 156)) (λv4=>⟨[[.rowc 155 0 (zC (eInt .u32) v1.2.2)]],[(155,1 + v1.1.length)]⟩) (λ_=>rfl) ?_ ?_) h
 refine .cond rfl (λh6=>?_) (λh6=>?_)
 refine .region λe h=>?_
 simp only [seval,EMI,eInt,rmap_set,spD]
 cases h
 simp only [seval,FMI,eInt,rmap_set,spD,Tryz.results155]
 refine .skip λe h=>?_
 cases h
 simp only [seval,FMI,eInt,rmap_set,spD,Tryz.results155]
 intro v4
 refine Mir.toK (.seqK (.bind λy8 h7=>.region λe h=>?_))
 simp only [seval,EMI,und_89,und_155,eInt,rmap_set,spD]
 refine SpecS.by (r01_by_spec h7) (by simp only [seval,FMI,eInt,rmap_set,spD]) ?_
 simp only [seval,EMI,eInt,rmap_set,spD]
 refine mU e (.seqK (Mir.joinO (λv6 : Int × (List Int)=>([U,U,U,U,U,U,U,U,.d (.int .u32 (zP.wrap (zQ.wrap (zG 1000000000 (zQ.wrap ((zQ.wrap e1) + 1)))))),.d (.list (zC (eInt .u32) y5)),.d (.int .u64 (zQ.wrap e2)),.d (.list (zC (eInt .u32) y7)),.gs 0 0 0 ((zE (y6.length : Int)) - 0),.d (.list (zC (eInt .u32) y6)),.d (.int .i64 v1.2.1),U,.d (.int .u64 v6.1),.d (.list (zC (eInt .u32) v6.2))] ++ us 155)) (λv6=>⟨[[.rowc 155 0 (zC (eInt .u32) v1.2.2)]],[(155,1 + v1.1.length)]⟩) (λ_=>rfl) ?_ ?_)) h
 refine .block (Mir.loop (λv5 : Int × (List Int)=>([U,U,U,U,U,U,U,U,.d (.int .u32 (zP.wrap (zQ.wrap (zG 1000000000 (zQ.wrap ((zQ.wrap e1) + 1)))))),.d (.list (zC (eInt .u32) y5)),.d (.int .u64 (zQ.wrap e2)),.d (.list (zC (eInt .u32) y7)),.gs 0 0 0 ((zE (y6.length : Int)) - 0),.d (.list (zC (eInt .u32) y6)),.d (.int .i64 v1.2.1),U,.d (.int .u64 v5.1),.d (.list (zC (eInt .u32) v5.2))] ++ us 155)) (λv5=>⟨[[.rowc 155 0 (zC (eInt .u32) v1.2.2)]],[(155,1 + v1.1.length)]⟩) (λ_=>rfl) (by simp only [seval,FMI,eInt,rmap_set,spD]) (by simp only [seval,FMI,eInt,rmap_set,spD]) λv5=>.seqK (.seqK (.bind λy9 h8=>.region λe h=>?_)))
 simp only [seval,EMI,eInt,rmap_set,spD]
 refine SpecS.by (r01_compare_spec h8) (by simp only [seval,FMI,eInt,rmap_set,spD]) ?_
 simp only [seval,EMI,eInt,rmap_set,spD]
 refine mU e (.cond rfl (λh9=>?_) (λh9=>?_)) h
 refine .skip (Mir.toK (.block (.sR λe h=>?_)))
 simp only [seval,EMI,eInt,rmap_set,spD]
 refine mU e (.bind λy10 h10=>.region λe h=>?_) h
 simp only [seval,EMI,eInt,rmap_set,spD]
 refine SpecS.by (r01_minus_spec h10) (by simp only [seval,FMI,eInt,rmap_set,spD]) ?_
 simp only [seval,EMI,eInt,rmap_set,spD]
 cases h
 simp only [seval,FMI,eInt,rmap_set,spD,Tryz.results155]
 refine .exit λe h=>?_
 cases h
 simp only [seval,FMI,eInt,rmap_set,spD,Tryz.results155]
 intro v6
 refine Mir.toK (.seqK (.bind λy11 h11=>.region λe h=>?_))
 simp only [seval,EMI,eInt,rmap_set,spD]
 refine SpecS.by (r01_minus_spec h11) (by simp only [seval,FMI,eInt,rmap_set,spD]) ?_
 simp only [seval,EMI,eInt,rmap_set,spD]
 refine mU e (.guard λq6=>?_) h
 replace q6 := and_of q6
 refine .bind λe6 q7=>?_
 replace q7 := gt_ok q7
 simp only [zI] at q7
 refine .regionW λe h=>regW.alt 4 rfl ?_
 simp only [seval,EMI,w_none,w_eq,und_89,und_155,eInt,rmap_set,spD]
 refine alt_indexG rfl rfl rfl und_131 sz_155 q6.1 q6.2 (regW.alt 0 rfl ?_)
 simp only [seval,EMI,w_none,w_eq,und_131,sz_155,eInt,rmap_set,spD]
 refine alt_storeR rfl rfl (row_at q7.2) rfl rfl sz_155 rfl (zH rfl) (regW.of ?_)
 simp only [seval,EMI,w_none,w_eq,sz_155,eInt,rmap_set,spD]
 cases h
 simp only [seval,FMI,eInt,rmap_set,spD,Tryz.results155]
 intro v7
 refine Mir.toK (.region λe h=>?_)
 simp only [seval,EMI,eInt,rmap_set,spD]
 cases h
 simp only [seval,FMI,eInt,rmap_set,spD,Tryz.results155]
 refine .exit λe h=>?_
 cases h
 simp only [seval,FMI,eInt,rmap_set,spD,Tryz.results155]
 intro v8
 refine Mir.toK (.sR λe h=>?_)
 simp only [seval,EMI,eInt,rmap_set,spD]
 refine mU e (.seqK (.guard λq8=>.guard λq9=>.regionW λe h=>regW.alt 2 rfl ?_)) h
 simp only [seval,EMI,w_none,w_eq,und_131,eInt,rmap_set,spD]
 refine alt_makeM (en := (eInt .u32)) (z := 0) rfl rfl app_131 zero_155 rfl rfl (of_decide_eq_true q8) q9 (regW.of ?_)
 simp only [seval,EMI,w_none,w_eq,eInt,rmap_set,spD]
 refine mU e (.seqK (.sR λe h=>?_)) h
 simp only [seval,EMI,und_131,eInt,rmap_set,spD]
 refine mU e (Mir.joinO (λv10 : (List Int)=>([U,U,U,U,U,U,U,U,U,U,U,U,.gs 0 0 0 ((zE (y6.length : Int)) - 0),U,U,U,U,U,U,.gr 1 0] ++ us 153)) (λv10=>⟨[[.rowc 155 0 (zC (eInt .u32) v8.2)],[.rowc 155 0 (zC (eInt .u32) v10)]],[]⟩) (λ_=>rfl) ?_ ?_) h
 refine .block (Mir.loop (λv9 : Int × Int × (List Int)=>([U,U,U,U,U,U,U,U,.d (.int .u32 (zP.wrap (zQ.wrap (zG 1000000000 (zQ.wrap ((zQ.wrap e1) + 1)))))),U,U,.d (.list (zC (eInt .u32) v8.1)),.gs 0 0 0 ((zE (y6.length : Int)) - 0),U,U,U,U,U,.d (.int .u64 v9.1),.gr 1 0,.d (.int .i64 v9.2.1)] ++ us 152)) (λv9=>⟨[[.rowc 155 0 (zC (eInt .u32) v8.2)],[.rowc 155 0 (zC (eInt .u32) v9.2.2)]],[]⟩) (λ_=>rfl) (by simp only [seval,FMI,eInt,rmap_set,spD]) (by simp only [seval,FMI,eInt,rmap_set,spD]) λv9=>.seqK (.sR λe h=>?_))
 simp only [seval,EMI,eInt,rmap_set,spD]
 refine mU e (.cond rfl (λh12=>?_) (λh12=>?_)) h
 refine .skip (Mir.toK (.seqK (.block (.seqK (.bind λe7 q10=>?_)))))
 replace q10 := gt_ok q10
 refine .region λe h=>?_
 simp only [seval,EMI,und_131,sz_155,q10,ag_155,und_155,und_89,eInt,rmap_set,spD]
 refine mU e (.seqK (.guard λq11=>?_)) h
 replace q11 := ne_of q11
 refine .bind λe8 q13=>?_
 replace q13 := gt_ok q13
 refine .regionW λe h=>regW.alt 7 rfl ?_
 simp only [seval,EMI,w_none,w_eq,und_155,und_89,q11,eInt,rmap_set,spD]
 refine alt_indexR rfl rfl rfl und_131 sz_155 (row_lo q13.1) (row_hi q13.2 q13.1) (regW.alt 0 rfl ?_)
 simp only [seval,EMI,w_none,w_eq,und_131,sz_155,eInt,rmap_set,spD]
 refine alt_storeR rfl rfl (row_at q13.2) rfl rfl sz_155 rfl (zH rfl) (regW.of ?_)
 simp only [seval,EMI,w_none,w_eq,sz_155,eInt,rmap_set,spD]
 refine mU e (.guard λq15=>?_) h
 replace q15 := ne_of q15
 refine .region λe h=>?_
 simp only [seval,EMI,und_155,und_89,q15,eInt,rmap_set,spD]
 refine mU e (.region λe h=>?_) h
 simp only [seval,EMI,eInt,rmap_set,spD]
 cases h
 simp only [seval,FMI,eInt,rmap_set,spD,Tryz.results155]
 refine .exit λe h=>?_
 cases h
 simp only [seval,FMI,eInt,rmap_set,spD,Tryz.results155]
 intro v10
 refine Mir.toK (.seqK (.guard λq18=>.frz 0 rfl ?_))
 simp only [seval,us_0,us_s,xCA,xNA,and_self,and_true,true_and,and_false,false_and,SZ,tk_map,dr_map]
 repeat first | rw [if_pos (show _ ≤ (_ : Nat) by simp only [lm]; have h1 := of_decide_eq_true q18; omega)]
 refine .frz 1 rfl ?_
 simp only [seval,us_0,us_s,xCA,xNA,and_self,and_true,true_and,and_false,false_and,SZ]
 refine .bind λy12 h13=>.bind λy13 h14=>.region λe h=>?_
 simp only [seval,EMI,eInt,rmap_set,spD]
 refine SpecS.by (r01_trim_spec h13) (by simp only [seval,FMI,eInt,rmap_set,spD]) ?_
 simp only [seval,EMI,eInt,rmap_set,spD]
 refine SpecS.by (r01_trim_spec h14) (by simp only [seval,FMI,eInt,rmap_set,spD]) ?_
 simp only [seval,EMI,eInt,rmap_set,spD]
 refine mU e (.ret λe h=>?_) h
 cases h
 simp only [seval,FMI,eInt,rmap_set,spD,Tryz.results155]
def r01_FromInt64 (a0 : Int) : Option ApiInt := if (decide (a0 < 0)) = true then bindO (r01_limbs (zQ.wrap (0 - (zQ.wrap a0)))) λ(y1 : (List Int))=>bindO (r01_signed true y1) λ(y2 : ApiInt)=>some y2 else bindO (r01_limbs (zQ.wrap a0)) λ(y3 : (List Int))=>bindO (r01_signed false y3) λ(y4 : ApiInt)=>some y4
theorem r01_FromInt64_spec {a0 : Int} {y : ApiInt} (h : r01_FromInt64 a0 = some y) : Spec gP 99 [.d (.int .i64 a0)] (.agg [.d (.bool y.Neg),.d (.list (zC (eInt .u32) y.Limbs))]) := by
 refine spec_mir Tryz.func99 rfl (by kernel_rfl) (by kernel_rfl) (λy : ApiInt=>.agg [.d (.bool y.Neg),.d (.list (zC (eInt .u32) y.Limbs))]) ?_ h
 unfold r01_FromInt64
 simp only [zD,zF,nS,nA,Tryz.ntmps99,SV]
 refine .sR λe h=>?_
 simp only [seval,EMI,zero_133]
 refine mU e (.seqK (.sR λe h=>?_)) h
 simp only [seval,EMI]
 refine mU e (.cond rfl (λhb4=>?_) (λhb4=>?_)) h
 refine .seqK (.bind λy1 hy5=>.bind λy2 hy6=>.region λe h=>?_)
 simp only [seval,EMI,und_2,und_89]
 refine SpecS.by (r01_limbs_spec hy5) (by simp only [seval,FMI]) ?_
 simp only [seval,EMI]
 refine SpecS.by (r01_signed_spec hy6) (by simp only [seval,FMI]) ?_
 simp only [seval,EMI,sz_133]
 refine mU e (.ret λe h=>?_) h
 cases h
 simp only [seval,FMI,Tryz.results99,ag_133,sz_133]
 refine .skip (Mir.toK (.seqK (.bind λy3 hy7=>.bind λy4 hy8=>.region λe h=>?_)))
 simp only [seval,EMI,und_2,und_89]
 refine SpecS.by (r01_limbs_spec hy7) (by simp only [seval,FMI]) ?_
 simp only [seval,EMI]
 refine SpecS.by (r01_signed_spec hy8) (by simp only [seval,FMI]) ?_
 simp only [seval,EMI,sz_133]
 refine mU e (.ret λe h=>?_) h
 cases h
 simp only [seval,FMI,Tryz.results99,ag_133,sz_133]
def r01_DivMod (a0 : ApiInt) (a1 : ApiInt) : Option (ApiInt × ApiInt × Int) := if ((a1.Limbs.length : Int) == 0) = true then some (ApiInt.mk false [],ApiInt.mk false [],6) else bindO (r01_parts a0.Limbs a1.Limbs) λ(y1 : (List Int) × (List Int))=>bindO (r01_signed (!(a0.Neg == a1.Neg)) y1.1) λ(y2 : ApiInt)=>bindO (r01_signed a0.Neg y1.2) λ(y3 : ApiInt)=>bindO (if ((decide ((y1.2.length : Int) > 0)) && (!(a0.Neg == a1.Neg))) = true then bindO (r01_FromInt64 1) λ(y4 : ApiInt)=>bindO (r01_Sub y2 y4) λ(y5 : ApiInt)=>bindO (r01_Add y3 a1) λ(y6 : ApiInt)=>some (y5,y6) else some (y2,y3)) λ(v1 : ApiInt × ApiInt)=>some (v1.1,v1.2,0)
theorem r01_DivMod_spec {a0 : ApiInt} {a1 : ApiInt} {y : ApiInt × ApiInt × Int} (h : r01_DivMod a0 a1 = some y) : Spec gP 120 [.agg [.d (.bool a0.Neg),.d (.list (zC (eInt .u32) a0.Limbs))],.agg [.d (.bool a1.Neg),.d (.list (zC (eInt .u32) a1.Limbs))]] (.tuple [.agg [.d (.bool y.1.Neg),.d (.list (zC (eInt .u32) y.1.Limbs))],.agg [.d (.bool y.2.1.Neg),.d (.list (zC (eInt .u32) y.2.1.Limbs))],.d (.int .i64 y.2.2)]) := by
 refine spec_mir Tryz.func120 rfl (by kernel_rfl) (by kernel_rfl) (λy : ApiInt × ApiInt × Int=>.tuple [.agg [.d (.bool y.1.Neg),.d (.list (zC (eInt .u32) y.1.Limbs))],.agg [.d (.bool y.2.1.Neg),.d (.list (zC (eInt .u32) y.2.1.Limbs))],.d (.int .i64 y.2.2)]) ?_ h
 unfold r01_DivMod
 simp only [zD,zF,nS,nA,Tryz.ntmps120,SV]
 refine .sR λe h=>?_
 simp only [seval,EMI,zero_133,eInt]
 refine mU e (.seqK (.sR λe h=>?_)) h
 simp only [seval,EMI,fld_133_1,sz_131,ag_131,und_131,eInt]
 refine mU e (.cond rfl (λhb2=>?_) (λhb2=>?_)) h
 refine .sR λe h=>?_
 simp only [seval,EMI,zero_133,pl_133,sz_133,eInt]
 refine mU e (.ret λe h=>?_) h
 cases h
 simp only [seval,FMI,eInt,Tryz.results120,ag_133,sz_133]
 refine .skip (Mir.toK (.seqK (.bind λy1 hy3=>.region λe h=>?_)))
 simp only [seval,EMI,fld_133_1,sz_131,ag_131,eInt]
 refine SpecS.by (r01_parts_spec hy3) (by simp only [seval,FMI,eInt]) ?_
 simp only [seval,EMI,eInt]
 refine mU e (.seqK (.bind λy2 hy4=>.bind λy3 hy5=>.regionD [] (by kernel_rfl) λe h=>?_)) h
 simp only [seval,EMI,SB,fld_133_0,sz_4,ag_4,und_4,eInt]
 refine Spec.by (r01_signed_spec hy4) (by simp only [seval,FMI,eInt]) ?_
 simp only [seval,EMI,SB,fld_133_0,sz_4,ag_4,eInt]
 refine Spec.by (r01_signed_spec hy5) (by simp only [seval,FMI,eInt]) ?_
 simp only [seval,EMI,SB,zero_133,sz_133,eInt]
 refine mU e (.seqK (.seqK (.joinV ([U,U,U,.ptr 1 0,.ptr 2 0,.ptr 3 0,U,U,U,.ptr 4 0,.ptr 5 0,U,U,U,U,U,U,U,U,U,U,U,U,U,U,U,U,U,U,U,U,U,U,U,U,U,U,U,U,U,U,U,U,U,U,.d (.bool ((decide ((y1.2.length : Int) > 0)) && (!(a0.Neg == a1.Neg))))] ++ us 8) ⟨[[.d (.bool a0.Neg),.d (.list (zC (eInt .u32) a0.Limbs))],[.d (.bool a1.Neg),.d (.list (zC (eInt .u32) a1.Limbs))],[.d (.bool false),.nil],[.d (.bool false),.nil],[.d (.bool y2.Neg),.d (.list (zC (eInt .u32) y2.Limbs))],[.d (.bool y3.Neg),.d (.list (zC (eInt .u32) y3.Limbs))]],[]⟩ rfl ?_ ?_))) h
 refine SWs.region ?_
 rcases zJ (decide ((y1.2.length : Int) > 0)) with hb6 | hb6
 simp only [seval,EMI,SL,PB,und_131,fld_133_0,sz_4,ag_4,und_4,hb6,eInt]
 simp only [seval,EMI,SL,PB,und_131,hb6,eInt]
 refine Mir.toK (Mir.joinO (λv1 : ApiInt × ApiInt=>([U,U,U,U,.ptr 2 0,.ptr 3 0,U,U,U,.ptr 4 0,.ptr 5 0] ++ us 43)) (λv1=>⟨[[.d (.bool a0.Neg),.d (.list (zC (eInt .u32) a0.Limbs))],[.d (.bool a1.Neg),.d (.list (zC (eInt .u32) a1.Limbs))],[.d (.bool false),.nil],[.d (.bool false),.nil],[.d (.bool v1.1.Neg),.d (.list (zC (eInt .u32) v1.1.Limbs))],[.d (.bool v1.2.Neg),.d (.list (zC (eInt .u32) v1.2.Limbs))]],[]⟩) (λ_=>rfl) ?_ ?_)
 refine .cond rfl (λhb11=>?_) (λhb11=>?_)
 refine .bind λy4 hy12=>.bind λy5 hy13=>.bind λy6 hy14=>.regionD [] (by kernel_rfl) λe h=>?_
 simp only [seval,EMI,SB,ag_133,sz_133,eInt]
 refine Spec.by (r01_FromInt64_spec hy12) (by simp only [seval,FMI,eInt]) ?_
 simp only [seval,EMI,SB,eInt]
 refine Spec.by (r01_Sub_spec hy13) (by simp only [seval,FMI,eInt]) ?_
 simp only [seval,EMI,SB,ag_133,sz_133,eInt]
 refine Spec.by (r01_Add_spec hy14) (by simp only [seval,FMI,eInt]) ?_
 simp only [seval,EMI,SB,sz_133,eInt]
 cases h
 simp only [seval,FMI,eInt,Tryz.results120,ag_133,sz_133]
 refine .skip λe h=>?_
 cases h
 simp only [seval,FMI,eInt,Tryz.results120,ag_133,sz_133]
 intro v1
 refine Mir.toK (.seqK (.regionD [(10,4)] (by kernel_rfl) λe h=>?_))
 simp only [seval,EMI,SB,ag_133,sz_133,eInt]
 refine mU e (.ret λe h=>?_) h
 cases h
 simp only [seval,FMI,eInt,Tryz.results120,ag_133,sz_133]
def r01_GCD (a0 : ApiInt) (a1 : ApiInt) : Option ApiInt := bindO (loopX (λ(v1 : (List Int) × (List Int))=>if ((decide ((v1.2.length : Int) > 0)) && ((decide ((v1.1.length : Int) > 2)) || (decide ((v1.2.length : Int) > 2)))) = true then bindO (r01_parts v1.1 v1.2) λ(y1 : (List Int) × (List Int))=>some (.go (v1.2,y1.2)) else some (.ret (v1.1,v1.2))) fuel (a0.Limbs,a1.Limbs)) λ(v2 : (List Int) × (List Int))=>if ((v2.2.length : Int) == 0) = true then bindO (r01_signed false v2.1) λ(y2 : ApiInt)=>some y2 else bindO (r01_short v2.1) λ(y3 : Int)=>bindO (r01_short v2.2) λ(y4 : Int)=>bindO (loopX (λ(v3 : Int × Int)=>if (decide (v3.2 > 0)) = true then guardO (!(v3.2 == 0)) ( some (.go (v3.2,zK v3.1 v3.2))) else some (.ret v3.1)) fuel (y3,y4)) λ(v4 : Int)=>bindO (r01_limbs v4) λ(y5 : (List Int))=>bindO (r01_signed false y5) λ(y6 : ApiInt)=>some y6
theorem r01_GCD_spec {a0 : ApiInt} {a1 : ApiInt} {y : ApiInt} (h : r01_GCD a0 a1 = some y) : Spec gP 135 [.agg [.d (.bool a0.Neg),.d (.list (zC (eInt .u32) a0.Limbs))],.agg [.d (.bool a1.Neg),.d (.list (zC (eInt .u32) a1.Limbs))]] (.agg [.d (.bool y.Neg),.d (.list (zC (eInt .u32) y.Limbs))]) := by
 refine spec_mir Tryz.func135 rfl (by kernel_rfl) (by kernel_rfl) (λy : ApiInt=>.agg [.d (.bool y.Neg),.d (.list (zC (eInt .u32) y.Limbs))]) ?_ h
 unfold r01_GCD
 simp only [zD,zF,nS,nA,Tryz.ntmps135,SV]
 refine .sR λe h=>?_
 simp only [seval,EMI,zero_133,eInt]
 refine mU e (.seqK (.regionD [] (by kernel_rfl) λe h=>?_)) h
 simp only [seval,EMI,SB,fld_133_1,sz_131,ag_131,eInt]
 refine mU e (.seqK (Mir.joinO (λv2 : (List Int) × (List Int)=>([U,U,U,U,.ptr 2 0,.d (.list (zC (eInt .u32) v2.1)),.d (.list (zC (eInt .u32) v2.2))] ++ us 47)) (λv2=>⟨[[.d (.bool a0.Neg),.d (.list (zC (eInt .u32) a0.Limbs))],[.d (.bool a1.Neg),.d (.list (zC (eInt .u32) a1.Limbs))],[.d (.bool false),.nil]],[]⟩) (λ_=>rfl) ?_ ?_)) h
 refine .block (Mir.loop (λv1 : (List Int) × (List Int)=>([U,U,U,U,.ptr 2 0,.d (.list (zC (eInt .u32) v1.1)),.d (.list (zC (eInt .u32) v1.2))] ++ us 47)) (λv1=>⟨[[.d (.bool a0.Neg),.d (.list (zC (eInt .u32) a0.Limbs))],[.d (.bool a1.Neg),.d (.list (zC (eInt .u32) a1.Limbs))],[.d (.bool false),.nil]],[]⟩) (λ_=>rfl) (by simp only [seval,FMI,eInt]) (by simp only [seval,FMI,eInt]) λv1=>.seqK (.seqK (.joinV ([U,U,U,U,.ptr 2 0,.d (.list (zC (eInt .u32) v1.1)),.d (.list (zC (eInt .u32) v1.2)),U,U,U,U,U,U,U,U,U,U,U,U,U,U,U,U,U,U,U,U,.d (.bool ((decide ((v1.2.length : Int) > 0)) && ((decide ((v1.1.length : Int) > 2)) || (decide ((v1.2.length : Int) > 2)))))] ++ us 26) ⟨[[.d (.bool a0.Neg),.d (.list (zC (eInt .u32) a0.Limbs))],[.d (.bool a1.Neg),.d (.list (zC (eInt .u32) a1.Limbs))],[.d (.bool false),.nil]],[]⟩ rfl ?_ ?_)))
 refine SWs.region ?_
 rcases zJ (decide ((v1.2.length : Int) > 0)) with hb34 | hb34
 rcases zJ (decide ((v1.1.length : Int) > 2)) with hb35 | hb35
 simp only [seval,EMI,SL,PB,und_131,hb34,hb35,eInt]
 simp only [seval,EMI,SL,PB,und_131,hb34,hb35,eInt]
 simp only [seval,EMI,SL,PB,und_131,hb34,eInt]
 refine Mir.toK (.cond rfl (λhb37=>?_) (λhb37=>?_))
 refine .skip (Mir.toK (.block (.seqK (.bind λy1 hy38=>.region λe h=>?_))))
 simp only [seval,EMI,eInt]
 refine SpecS.by (r01_parts_spec hy38) (by simp only [seval,FMI,eInt]) ?_
 simp only [seval,EMI,eInt]
 refine mU e (.region λe h=>?_) h
 simp only [seval,EMI,eInt]
 cases h
 simp only [seval,FMI,eInt,Tryz.results135,ag_133,sz_133]
 refine .exit λe h=>?_
 cases h
 simp only [seval,FMI,eInt,Tryz.results135,ag_133,sz_133]
 intro v2
 refine Mir.toK (.seqK (.sR λe h=>?_))
 simp only [seval,EMI,und_131,eInt]
 refine mU e (.cond rfl (λhb41=>?_) (λhb41=>?_)) h
 refine .seqK (.bind λy2 hy42=>.region λe h=>?_)
 simp only [seval,EMI,eInt]
 refine SpecS.by (r01_signed_spec hy42) (by simp only [seval,FMI,eInt]) ?_
 simp only [seval,EMI,sz_133,eInt]
 refine mU e (.ret λe h=>?_) h
 cases h
 simp only [seval,FMI,eInt,Tryz.results135,ag_133,sz_133]
 refine .skip (Mir.toK (.seqK (.bind λy3 hy43=>.bind λy4 hy44=>.region λe h=>?_)))
 simp only [seval,EMI,eInt]
 refine SpecS.by (r01_short_spec hy43) (by simp only [seval,FMI,eInt]) ?_
 simp only [seval,EMI,eInt]
 refine SpecS.by (r01_short_spec hy44) (by simp only [seval,FMI,eInt]) ?_
 simp only [seval,EMI,eInt]
 refine mU e (.seqK (Mir.joinO (λv4 : Int=>([U,U,U,U,.ptr 2 0,U,U,U,U,.d (.int .u64 v4)] ++ us 44)) (λv4=>⟨[[.d (.bool a0.Neg),.d (.list (zC (eInt .u32) a0.Limbs))],[.d (.bool a1.Neg),.d (.list (zC (eInt .u32) a1.Limbs))],[.d (.bool false),.nil]],[]⟩) (λ_=>rfl) ?_ ?_)) h
 refine .block (Mir.loop (λv3 : Int × Int=>([U,U,U,U,.ptr 2 0,U,U,U,U,.d (.int .u64 v3.1),.d (.int .u64 v3.2)] ++ us 43)) (λv3=>⟨[[.d (.bool a0.Neg),.d (.list (zC (eInt .u32) a0.Limbs))],[.d (.bool a1.Neg),.d (.list (zC (eInt .u32) a1.Limbs))],[.d (.bool false),.nil]],[]⟩) (λ_=>rfl) (by simp only [seval,FMI,eInt]) (by simp only [seval,FMI,eInt]) λv3=>.seqK (.sR λe h=>?_))
 simp only [seval,EMI,eInt]
 refine mU e (.cond rfl (λhb61=>?_) (λhb61=>?_)) h
 refine .skip (Mir.toK (.block (.guard λq62=>?_)))
 replace q62 := ne_of q62
 refine .regionD [] (by kernel_rfl) λe h=>?_
 simp only [seval,EMI,SB,q62,eInt]
 cases h
 simp only [seval,FMI,eInt,Tryz.results135,ag_133,sz_133]
 refine .exit λe h=>?_
 cases h
 simp only [seval,FMI,eInt,Tryz.results135,ag_133,sz_133]
 intro v4
 refine Mir.toK (.seqK (.bind λy5 hy63=>.bind λy6 hy64=>.region λe h=>?_))
 simp only [seval,EMI,eInt]
 refine SpecS.by (r01_limbs_spec hy63) (by simp only [seval,FMI,eInt]) ?_
 simp only [seval,EMI,eInt]
 refine SpecS.by (r01_signed_spec hy64) (by simp only [seval,FMI,eInt]) ?_
 simp only [seval,EMI,sz_133,eInt]
 refine mU e (.ret λe h=>?_) h
 cases h
 simp only [seval,FMI,eInt,Tryz.results135,ag_133,sz_133]
def r01_Cmp (a0 : ApiInt) (a1 : ApiInt) : Option Int := if (!(a0.Neg == a1.Neg)) = true then if a0.Neg = true then some (-1) else some 1 else if a0.Neg = true then bindO (r01_compare a1.Limbs a0.Limbs) λ(y1 : Int)=>some y1 else bindO (r01_compare a0.Limbs a1.Limbs) λ(y2 : Int)=>some y2
theorem r01_Cmp_spec {a0 : ApiInt} {a1 : ApiInt} {y : Int} (h : r01_Cmp a0 a1 = some y) : Spec gP 153 [.agg [.d (.bool a0.Neg),.d (.list (zC (eInt .u32) a0.Limbs))],.agg [.d (.bool a1.Neg),.d (.list (zC (eInt .u32) a1.Limbs))]] (.d (.int .i64 y)) := by
 refine spec_mir Tryz.func153 rfl (by kernel_rfl) (by kernel_rfl) (λy : Int=>.d (.int .i64 y)) ?_ h
 unfold r01_Cmp
 simp only [zD,zF,nS,nA,Tryz.ntmps153,SV]
 refine .sR λe h=>?_
 simp only [seval,EMI,eInt]
 refine mU e (.seqK (.sR λe h=>?_)) h
 simp only [seval,EMI,fld_133_0,sz_4,ag_4,und_4,eInt]
 refine mU e (.cond rfl (λhb4=>?_) (λhb4=>?_)) h
 refine .seqK (.sR λe h=>?_)
 simp only [seval,EMI,fld_133_0,sz_4,ag_4,eInt]
 refine mU e (.cond rfl (λhb6=>?_) (λhb6=>?_)) h
 refine .sR λe h=>?_
 simp only [seval,EMI,eInt]
 refine mU e (.ret λe h=>?_) h
 cases h
 simp only [seval,FMI,eInt,Tryz.results153]
 refine .skip (Mir.toK (.sR λe h=>?_))
 simp only [seval,EMI,eInt]
 refine mU e (.ret λe h=>?_) h
 cases h
 simp only [seval,FMI,eInt,Tryz.results153]
 refine .skip (Mir.toK (.seqK (.sR λe h=>?_)))
 simp only [seval,EMI,fld_133_0,sz_4,ag_4,eInt]
 refine mU e (.cond rfl (λhb9=>?_) (λhb9=>?_)) h
 refine .seqK (.bind λy1 hy10=>.region λe h=>?_)
 simp only [seval,EMI,fld_133_1,sz_131,ag_131,eInt]
 refine SpecS.by (r01_compare_spec hy10) (by simp only [seval,FMI,eInt]) ?_
 simp only [seval,EMI,eInt]
 refine mU e (.ret λe h=>?_) h
 cases h
 simp only [seval,FMI,eInt,Tryz.results153]
 refine .skip (Mir.toK (.seqK (.bind λy2 hy11=>.region λe h=>?_)))
 simp only [seval,EMI,fld_133_1,sz_131,ag_131,eInt]
 refine SpecS.by (r01_compare_spec hy11) (by simp only [seval,FMI,eInt]) ?_
 simp only [seval,EMI,eInt]
 refine mU e (.ret λe h=>?_) h
 cases h
 simp only [seval,FMI,eInt,Tryz.results153]
def r01_Sign (a0 : ApiInt) : Option Int := if ((a0.Limbs.length : Int) == 0) = true then some 0 else if a0.Neg = true then some (-1) else some 1
theorem r01_Sign_spec {a0 : ApiInt} {y : Int} (h : r01_Sign a0 = some y) : Spec gP 133 [.agg [.d (.bool a0.Neg),.d (.list (zC (eInt .u32) a0.Limbs))]] (.d (.int .i64 y)) := by
 refine spec_mir Tryz.func133 rfl (by kernel_rfl) (by kernel_rfl) (λy : Int=>.d (.int .i64 y)) ?_ h
 unfold r01_Sign
 simp only [zD,zF,nS,nA,Tryz.ntmps133,SV]
 refine .sR λe h=>?_
 simp only [seval,EMI,eInt]
 refine mU e (.seqK (.sR λe h=>?_)) h
 simp only [seval,EMI,fld_133_1,sz_131,ag_131,und_131,eInt]
 refine mU e (.cond rfl (λhb2=>?_) (λhb2=>?_)) h
 refine .sR λe h=>?_
 simp only [seval,EMI,eInt]
 refine mU e (.ret λe h=>?_) h
 cases h
 simp only [seval,FMI,eInt,Tryz.results133]
 refine .skip (Mir.toK (.seqK (.sR λe h=>?_)))
 simp only [seval,EMI,fld_133_0,sz_4,ag_4,eInt]
 refine mU e (.cond rfl (λhb4=>?_) (λhb4=>?_)) h
 refine .sR λe h=>?_
 simp only [seval,EMI,eInt]
 refine mU e (.ret λe h=>?_) h
 cases h
 simp only [seval,FMI,eInt,Tryz.results133]
 refine .skip (Mir.toK (.sR λe h=>?_))
 simp only [seval,EMI,eInt]
 refine mU e (.ret λe h=>?_) h
 cases h
 simp only [seval,FMI,eInt,Tryz.results133]
def r01_Int64 (a0 : ApiInt) : Option (Int × Bool) := bindO (r01_FromInt64 (-9223372036854775808)) λ(y1 : ApiInt)=>bindO (r01_FromInt64 9223372036854775807) λ(y2 : ApiInt)=>bindO (bindO (r01_Cmp a0 y1) λ(y3 : Int)=>if (decide (y3 < 0)) = true then some true else bindO (r01_Cmp a0 y2) λ(y4 : Int)=>some (decide (y4 > 0))) λ(v1 : Bool)=>if v1 = true then some (0,false) else bindO (r01_short a0.Limbs) λ(y5 : Int)=>if a0.Neg = true then some (zO.wrap (0 - (zO.wrap y5)),true) else some (zO.wrap y5,true)
theorem r01_Int64_spec {a0 : ApiInt} {y : Int × Bool} (h : r01_Int64 a0 = some y) : Spec gP 119 [.agg [.d (.bool a0.Neg),.d (.list (zC (eInt .u32) a0.Limbs))]] (.tuple [.d (.int .i64 y.1),.d (.bool y.2)]) := by
 refine spec_mir Tryz.func119 rfl (by kernel_rfl) (by kernel_rfl) (λy : Int × Bool=>.tuple [.d (.int .i64 y.1),.d (.bool y.2)]) ?_ h
 unfold r01_Int64
 simp only [zD,zF,nS,nA,Tryz.ntmps119,SV]
 refine .sR λe h=>?_
 simp only [seval,EMI,eInt]
 refine mU e (.seqK (.bind λy1 hy1=>.bind λy2 hy2=>.region λe h=>?_)) h
 simp only [seval,EMI,eInt]
 refine SpecS.by (r01_FromInt64_spec hy1) (by simp only [seval,FMI,eInt]) ?_
 simp only [seval,EMI,eInt]
 refine SpecS.by (r01_FromInt64_spec hy2) (by simp only [seval,FMI,eInt]) ?_
 simp only [seval,EMI,zero_133,sz_133,eInt]
 refine mU e (.seqK (.seqK (Mir.joinO (λv1 : Bool=>([U,.ptr 0 0,U,U,U,U,U,U,U,U,U,U,U,U,U,U,U,U,.d (.bool v1)] ++ us 10)) (λv1=>⟨[[.d (.bool a0.Neg),.d (.list (zC (eInt .u32) a0.Limbs))],[.d (.bool y1.Neg),.d (.list (zC (eInt .u32) y1.Limbs))],[.d (.bool y2.Neg),.d (.list (zC (eInt .u32) y2.Limbs))]],[]⟩) (λ_=>rfl) ?_ ?_))) h
 refine .bind λy3 hy3=>.ite (λhb4=>?_) (λhb4=>?_)
 refine .region λe h=>?_
 simp only [seval,EMI,ag_133,sz_133,eInt,hb4]
 refine SpecS.by (r01_Cmp_spec hy3) (by simp only [seval,FMI,eInt,hb4]) ?_
 simp only [seval,EMI,eInt,hb4]
 cases h
 simp only [seval,FMI,eInt,hb4]
 refine .bind λy4 hy5=>.region λe h=>?_
 simp only [seval,EMI,ag_133,sz_133,eInt,hb4]
 refine SpecS.by (r01_Cmp_spec hy3) (by simp only [seval,FMI,eInt,hb4]) ?_
 simp only [seval,EMI,ag_133,sz_133,eInt,hb4]
 refine SpecS.by (r01_Cmp_spec hy5) (by simp only [seval,FMI,eInt,hb4]) ?_
 simp only [seval,EMI,eInt,hb4]
 cases h
 simp only [seval,FMI,eInt,hb4]
 intro v1
 refine Mir.toK (.cond rfl (λhb7=>?_) (λhb7=>?_))
 refine .sR λe h=>?_
 simp only [seval,EMI,eInt]
 refine mU e (.ret λe h=>?_) h
 cases h
 simp only [seval,FMI,eInt,Tryz.results119]
 refine .skip (Mir.toK (.seqK (.bind λy5 hy8=>.region λe h=>?_)))
 simp only [seval,EMI,fld_133_1,sz_131,ag_131,eInt]
 refine SpecS.by (r01_short_spec hy8) (by simp only [seval,FMI,eInt]) ?_
 simp only [seval,EMI,eInt]
 refine mU e (.seqK (.sR λe h=>?_)) h
 simp only [seval,EMI,fld_133_0,sz_4,ag_4,eInt]
 refine mU e (.cond rfl (λhb10=>?_) (λhb10=>?_)) h
 refine .sR λe h=>?_
 simp only [seval,EMI,und_89,und_2,eInt]
 refine mU e (.ret λe h=>?_) h
 cases h
 simp only [seval,FMI,eInt,Tryz.results119]
 refine .skip (Mir.toK (.sR λe h=>?_))
 simp only [seval,EMI,und_89,und_2,eInt]
 refine mU e (.ret λe h=>?_) h
 cases h
 simp only [seval,FMI,eInt,Tryz.results119]
def r01_Same (a0 : ApiInt) (a1 : ApiInt) : Option Bool := bindO (if (a0.Neg == a1.Neg) = true then bindO (r01_compare a0.Limbs a1.Limbs) λ(y1 : Int)=>some (y1 == 0) else some false) λ(v1 : Bool)=>some v1
theorem r01_Same_spec {a0 : ApiInt} {a1 : ApiInt} {y : Bool} (h : r01_Same a0 a1 = some y) : Spec gP 98 [.agg [.d (.bool a0.Neg),.d (.list (zC (eInt .u32) a0.Limbs))],.agg [.d (.bool a1.Neg),.d (.list (zC (eInt .u32) a1.Limbs))]] (.d (.bool y)) := by
 refine spec_mir Tryz.func98 rfl (by kernel_rfl) (by kernel_rfl) (λy : Bool=>.d (.bool y)) ?_ h
 unfold r01_Same
 simp only [zD,zF,nS,nA,Tryz.ntmps98,SV]
 refine .sR λe h=>?_
 simp only [seval,EMI,eInt]
 refine mU e (.seqK (Mir.joinO (λv1 : Bool=>([U,U,U,U,.d (.bool v1)] ++ us 13)) (λv1=>⟨[[.d (.bool a0.Neg),.d (.list (zC (eInt .u32) a0.Limbs))],[.d (.bool a1.Neg),.d (.list (zC (eInt .u32) a1.Limbs))]],[]⟩) (λ_=>rfl) ?_ ?_)) h
 refine .ite (λhb1=>?_) (λhb1=>?_)
 refine .bind λy1 hy2=>.region λe h=>?_
 simp only [seval,EMI,fld_133_0,sz_4,ag_4,und_4,fld_133_1,sz_131,ag_131,eInt,hb1]
 refine SpecS.by (r01_compare_spec hy2) (by simp only [seval,FMI,eInt,hb1]) ?_
 simp only [seval,EMI,eInt,hb1]
 cases h
 simp only [seval,FMI,eInt,hb1]
 refine .region λe h=>?_
 simp only [seval,EMI,fld_133_0,sz_4,ag_4,und_4,eInt,hb1]
 cases h
 simp only [seval,FMI,eInt,hb1]
 intro v1
 refine Mir.toK (.ret λe h=>?_)
 cases h
 simp only [seval,FMI,eInt,Tryz.results98]
end Go.Proofs.YtjamgiobipdfhaaGreatDoor
