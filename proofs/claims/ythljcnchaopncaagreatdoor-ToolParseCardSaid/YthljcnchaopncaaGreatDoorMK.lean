import Derived.Test.YthljcnchaopncaaGreatDoorGx
import Derived.Test.YthljcnchaopncaaGreatDoorTy
import Derived.Test.YthljcnchaopncaaGreatDoorBu
import Derived.Test.YthljcnchaopncaaGreatDoorLbe
import Derived.Test.YthljcnchaopncaaGreatDoorLkn
import Derived.Test.YthljcnchaopncaaGreatDoorSzz
import Derived.Test.YthljcnchaopncaaGreatDoorMI
import Derived.Test.YthljcnchaopncaaGreatDoorMQ
import Derived.Test.YthljcnchaopncaaGreatDoorMB
import Derived.Test.YthljcnchaopncaaGreatDoorMT
import Derived.Test.YthljcnchaopncaaGreatDoorMX
namespace Go.Proofs.YthljcnchaopncaaGreatDoor
open Go.RowKit
open Nat renaming reduceAdd → nA,reduceSub → nS,reduceMul → nM,reduceEqDiff → nE,reduceLeDiff → nL,reduceLT → nT,reduceBEq → nB
open Int renaming reduceLT → iT,reduceToNat → iN,reduceEq → iE
set_option linter.unusedVariables false
set_option linter.unusedSimpArgs false
set_option maxRecDepth 100000
set_option maxHeartbeats 8000000
structure ApiTool where
 Number : Int
 Kind : Int
 Radius : Int
 Flute : Int
 Holder : Int
 Step : Int
 Feed : Int
 Plunge : Int
 deriving DecidableEq
def encApiTool (x : ApiTool) : List D := [.int .i64 x.Number,.int .i64 x.Kind,.int .i64 x.Radius,.int .i64 x.Flute,.int .i64 x.Holder,.int .i64 x.Step,.int .i64 x.Feed,.int .i64 x.Plunge]
theorem al_ApiTool {l : List ApiTool} : (List.map encApiTool l).all (fun x=>x.length == 8) = true := by simp [List.all_eq_true,encApiTool]
theorem ENMK : type_of% (@encApiTool.eq_1) := @encApiTool.eq_1
theorem EMK : type_of% (And.intro @SE <| @ENMK) := And.intro @SE <| @ENMK
theorem FMK : type_of% (And.intro @SF <| @ENMK) := And.intro @SF <| @ENMK
def r27_Standard (a0 : Int) (a1 : Int) : Option ApiTool := some (ApiTool.mk a0 1 a1 20000 (IntKind.i64.wrap (a1 + 7000)) 1500 20000 5000)
theorem r27_Standard_spec {a0 : Int} {a1 : Int} {y : ApiTool} (h : r27_Standard a0 a1 = some y) : Spec gP 29 [.d (.int .i64 a0),.d (.int .i64 a1)] (.agg [.d (.int .i64 y.Number),.d (.int .i64 y.Kind),.d (.int .i64 y.Radius),.d (.int .i64 y.Flute),.d (.int .i64 y.Holder),.d (.int .i64 y.Step),.d (.int .i64 y.Feed),.d (.int .i64 y.Plunge)]) := by
 refine spec_mir Tryz.func29 rfl (by kernel_rfl) (by kernel_rfl) (fun y : ApiTool=>.agg [.d (.int .i64 y.Number),.d (.int .i64 y.Kind),.d (.int .i64 y.Radius),.d (.int .i64 y.Flute),.d (.int .i64 y.Holder),.d (.int .i64 y.Step),.d (.int .i64 y.Feed),.d (.int .i64 y.Plunge)]) ?_ h
 unfold r27_Standard
 simp only [List.replicate,List.length,nS,nA,Tryz.ntmps29,SV]
 refine .sR fun e h=>?_
 simp only [seval,EMK,zero_23]
 refine mU e (.sR fun e h=>?_) h
 simp only [seval,EMK,zero_23,pl_23,sz_23]
 refine mU e (.ret fun e h=>?_) h
 cases h
 simp only [seval,FMK,Tryz.results29,ag_23,sz_23]
def to_length (a0 : Int) : Option Bool := some ((decide (a0 ≥ 1)) && (decide (a0 ≤ 10000000)))
theorem to_length_spec {a0 : Int} {y : Bool} (h : to_length a0 = some y) : Spec gP 31 [.d (.int .i64 a0)] (.d (.bool y)) := by
 refine spec_mir Tryz.func31 rfl (by kernel_rfl) (by kernel_rfl) (fun y : Bool=>.d (.bool y)) ?_ h
 unfold to_length
 simp only [List.replicate,List.length,nS,nA,Tryz.ntmps31,SV]
 refine .sR fun e h=>?_
 simp only [seval,EMK]
 refine mU e (.seqK (.joinV ([U,U,.d (.bool ((decide (a0 ≥ 1)) && (decide (a0 ≤ 10000000))))] ++ us 6) ⟨[],[]⟩ rfl ?_ ?_)) h
 refine SWs.region ?_
 rcases Bool.eq_false_or_eq_true (decide (a0 ≥ 1)) with hb1 | hb1
 simp only [seval,EMK,SL,PB,hb1]
 simp only [seval,EMK,SL,PB,hb1]
 refine Mir.toK (.ret fun e h=>?_)
 cases h
 simp only [seval,FMK,Tryz.results31]
def to_Valid (a0 : ApiTool) : Option Int := bindO (if (decide (a0.Number < 1)) = true then some true else if (decide (a0.Number > 9999)) = true then some true else bindO (to_KindName a0.Kind) fun (y1 : (List UInt8))=>some (y1 == [])) fun (v1 : Bool)=>if v1 = true then some 1 else bindX (bindO (to_length a0.Radius) fun (y2 : Bool)=>if (!y2) = true then some (.ret 1) else bindO (to_length a0.Flute) fun (y3 : Bool)=>if (!y3) = true then some (.ret 1) else bindO (to_length a0.Holder) fun (y4 : Bool)=>if (!y4) = true then some (.ret 1) else bindO (to_length a0.Step) fun (y5 : Bool)=>if (!y5) = true then some (.ret 1) else bindO (to_length a0.Feed) fun (y6 : Bool)=>if (!y6) = true then some (.ret 1) else bindO (to_length a0.Plunge) fun (y7 : Bool)=>if (!y7) = true then some (.ret 1) else some (.go ())) fun (v2 : Unit)=>if ((decide (a0.Holder < a0.Radius)) || (decide (a0.Step > a0.Flute))) = true then some 1 else some 0
theorem to_Valid_spec {a0 : ApiTool} {y : Int} (h : to_Valid a0 = some y) : Spec gP 11 [.agg [.d (.int .i64 a0.Number),.d (.int .i64 a0.Kind),.d (.int .i64 a0.Radius),.d (.int .i64 a0.Flute),.d (.int .i64 a0.Holder),.d (.int .i64 a0.Step),.d (.int .i64 a0.Feed),.d (.int .i64 a0.Plunge)]] (.d (.int .i64 y)) := by
 refine spec_mir Tryz.func11 rfl (by kernel_rfl) (by kernel_rfl) (fun y : Int=>.d (.int .i64 y)) ?_ h
 unfold to_Valid
 simp only [List.replicate,List.length,nS,nA,Tryz.ntmps11,SV]
 refine .sR fun e h=>?_
 simp only [seval,EMK,eInt]
 refine mU e (.seqK (.seqK (Mir.joinO (fun v1 : Bool=>([U,.ptr 0 0,U,U,U,U,U,U,U,U,U,U,U,U,U,U,U,U,.d (.bool v1)] ++ us 34)) (fun v1=>⟨[[.d (.int .i64 a0.Number),.d (.int .i64 a0.Kind),.d (.int .i64 a0.Radius),.d (.int .i64 a0.Flute),.d (.int .i64 a0.Holder),.d (.int .i64 a0.Step),.d (.int .i64 a0.Feed),.d (.int .i64 a0.Plunge)]],[]⟩) (fun _=>rfl) ?_ ?_))) h
 refine .ite (fun hb1=>?_) (fun hb1=>?_)
 refine .region fun e h=>?_
 simp only [seval,EMK,fld_23_0,sz_3,ag_3,hb1]
 cases h
 simp only [seval,FMK,hb1]
 refine .ite (fun hb2=>?_) (fun hb2=>?_)
 refine .region fun e h=>?_
 simp only [seval,EMK,fld_23_0,sz_3,ag_3,hb1,hb2]
 cases h
 simp only [seval,FMK,hb1,hb2]
 refine .bind fun y1 hy3=>.region fun e h=>?_
 simp only [seval,EMK,fld_23_0,sz_3,ag_3,fld_23_1,hb1,hb2]
 refine SpecS.by (to_KindName_spec hy3) (by simp only [seval,FMK,hb1,hb2]) ?_
 simp only [seval,EMK,hb1,hb2]
 cases h
 simp only [seval,FMK,hb1,hb2]
 intro v1
 refine Mir.toK (.cond rfl (fun hb5=>?_) (fun hb5=>?_))
 refine .sR fun e h=>?_
 simp only [seval,EMK]
 refine mU e (.ret fun e h=>?_) h
 cases h
 simp only [seval,FMK,Tryz.results11]
 refine .skip (Mir.toK (.seqK (.sR fun e h=>?_)))
 simp only [seval,EMK,fld_23_2,sz_2,ag_2,fld_23_3,fld_23_4,fld_23_5,fld_23_6,fld_23_7,und_48,zero_2,(oL 6),(nr rfl : ((6 : Nat) : Int) = 6),eInt]
 refine mU e (Mir.join (fun v2 : Unit=>([U,.ptr 0 0] ++ us 51)) (fun v2=>⟨[[.d (.int .i64 a0.Number),.d (.int .i64 a0.Kind),.d (.int .i64 a0.Radius),.d (.int .i64 a0.Flute),.d (.int .i64 a0.Holder),.d (.int .i64 a0.Step),.d (.int .i64 a0.Feed),.d (.int .i64 a0.Plunge)]],[]⟩) (fun _=>rfl) ?_ ?_) h
 refine .block (.loopR 15 (.sR fun e h=>?_))
 simp only [seval,EMK,eInt]
 refine mU e (.seqK (.condT rfl (.skip (Mir.toK (.seqK (.block (.sR fun e h=>?_))))))) h
 simp only [seval,EMK,und_48,sz_2,ag_2,eInt]
 refine mU e (.seqK (.bind fun y2 hy38=>.region fun e h=>?_)) h
 simp only [seval,EMK,eInt]
 refine SpecS.by (to_length_spec hy38) (by simp only [seval,FMK,eInt]) ?_
 simp only [seval,EMK,eInt]
 refine mU e (.cond rfl (fun hb40=>?_) (fun hb40=>?_)) h
 refine .sR fun e h=>?_
 simp only [seval,EMK,eInt]
 refine mU e (.ret fun e h=>?_) h
 cases h
 simp only [seval,FMK,eInt,Tryz.results11]
 refine .skip (Mir.toB (Mir.toK (.region fun e h=>?_)))
 simp only [seval,EMK,(nr rfl : IntKind.i64.wrap 1 = 1),eInt]
 refine Mir.useN (e := e) ?_ h
 refine .sR fun e h=>?_
 simp only [seval,EMK,eInt]
 refine mU e (.seqK (.condT rfl (.skip (Mir.toK (.seqK (.block (.sR fun e h=>?_))))))) h
 simp only [seval,EMK,und_48,sz_2,ag_2,eInt]
 refine mU e (.seqK (.bind fun y3 hy43=>.region fun e h=>?_)) h
 simp only [seval,EMK,eInt]
 refine SpecS.by (to_length_spec hy43) (by simp only [seval,FMK,eInt]) ?_
 simp only [seval,EMK,eInt]
 refine mU e (.cond rfl (fun hb45=>?_) (fun hb45=>?_)) h
 refine .sR fun e h=>?_
 simp only [seval,EMK,eInt]
 refine mU e (.ret fun e h=>?_) h
 cases h
 simp only [seval,FMK,eInt,Tryz.results11]
 refine .skip (Mir.toB (Mir.toK (.region fun e h=>?_)))
 simp only [seval,EMK,(nr rfl : IntKind.i64.wrap 2 = 2),eInt]
 refine Mir.useN (e := e) ?_ h
 refine .sR fun e h=>?_
 simp only [seval,EMK,eInt]
 refine mU e (.seqK (.condT rfl (.skip (Mir.toK (.seqK (.block (.sR fun e h=>?_))))))) h
 simp only [seval,EMK,und_48,sz_2,ag_2,eInt]
 refine mU e (.seqK (.bind fun y4 hy48=>.region fun e h=>?_)) h
 simp only [seval,EMK,eInt]
 refine SpecS.by (to_length_spec hy48) (by simp only [seval,FMK,eInt]) ?_
 simp only [seval,EMK,eInt]
 refine mU e (.cond rfl (fun hb50=>?_) (fun hb50=>?_)) h
 refine .sR fun e h=>?_
 simp only [seval,EMK,eInt]
 refine mU e (.ret fun e h=>?_) h
 cases h
 simp only [seval,FMK,eInt,Tryz.results11]
 refine .skip (Mir.toB (Mir.toK (.region fun e h=>?_)))
 simp only [seval,EMK,(nr rfl : IntKind.i64.wrap 3 = 3),eInt]
 refine Mir.useN (e := e) ?_ h
 refine .sR fun e h=>?_
 simp only [seval,EMK,eInt]
 refine mU e (.seqK (.condT rfl (.skip (Mir.toK (.seqK (.block (.sR fun e h=>?_))))))) h
 simp only [seval,EMK,und_48,sz_2,ag_2,eInt]
 refine mU e (.seqK (.bind fun y5 hy53=>.region fun e h=>?_)) h
 simp only [seval,EMK,eInt]
 refine SpecS.by (to_length_spec hy53) (by simp only [seval,FMK,eInt]) ?_
 simp only [seval,EMK,eInt]
 refine mU e (.cond rfl (fun hb55=>?_) (fun hb55=>?_)) h
 refine .sR fun e h=>?_
 simp only [seval,EMK,eInt]
 refine mU e (.ret fun e h=>?_) h
 cases h
 simp only [seval,FMK,eInt,Tryz.results11]
 refine .skip (Mir.toB (Mir.toK (.region fun e h=>?_)))
 simp only [seval,EMK,(nr rfl : IntKind.i64.wrap 4 = 4),eInt]
 refine Mir.useN (e := e) ?_ h
 refine .sR fun e h=>?_
 simp only [seval,EMK,eInt]
 refine mU e (.seqK (.condT rfl (.skip (Mir.toK (.seqK (.block (.sR fun e h=>?_))))))) h
 simp only [seval,EMK,und_48,sz_2,ag_2,eInt]
 refine mU e (.seqK (.bind fun y6 hy58=>.region fun e h=>?_)) h
 simp only [seval,EMK,eInt]
 refine SpecS.by (to_length_spec hy58) (by simp only [seval,FMK,eInt]) ?_
 simp only [seval,EMK,eInt]
 refine mU e (.cond rfl (fun hb60=>?_) (fun hb60=>?_)) h
 refine .sR fun e h=>?_
 simp only [seval,EMK,eInt]
 refine mU e (.ret fun e h=>?_) h
 cases h
 simp only [seval,FMK,eInt,Tryz.results11]
 refine .skip (Mir.toB (Mir.toK (.region fun e h=>?_)))
 simp only [seval,EMK,(nr rfl : IntKind.i64.wrap 5 = 5),eInt]
 refine Mir.useN (e := e) ?_ h
 refine .sR fun e h=>?_
 simp only [seval,EMK,eInt]
 refine mU e (.seqK (.condT rfl (.skip (Mir.toK (.seqK (.block (.sR fun e h=>?_))))))) h
 simp only [seval,EMK,und_48,sz_2,ag_2,eInt]
 refine mU e (.seqK (.bind fun y7 hy63=>.region fun e h=>?_)) h
 simp only [seval,EMK,eInt]
 refine SpecS.by (to_length_spec hy63) (by simp only [seval,FMK,eInt]) ?_
 simp only [seval,EMK,eInt]
 refine mU e (.cond rfl (fun hb65=>?_) (fun hb65=>?_)) h
 refine .sR fun e h=>?_
 simp only [seval,EMK,eInt]
 refine mU e (.ret fun e h=>?_) h
 cases h
 simp only [seval,FMK,eInt,Tryz.results11]
 refine .skip (Mir.toB (Mir.toK (.region fun e h=>?_)))
 simp only [seval,EMK,(nr rfl : IntKind.i64.wrap 6 = 6),eInt]
 refine Mir.useN (e := e) ?_ h
 refine .sR fun e h=>?_
 simp only [seval,EMK,eInt]
 refine mU e (.seqK (.condF rfl (.exit fun e h=>?_))) h
 cases h
 simp only [seval,FMK,eInt,Tryz.results11]
 intro v2
 refine Mir.toK (.seqK (.seqK (.joinV [U,U,U,U,U,U,U,U,U,U,U,U,U,U,U,U,U,U,U,U,U,U,U,U,U,U,U,U,U,U,U,U,U,U,U,U,U,U,U,U,U,U,U,U,U,U,U,U,U,U,U,U,.d (.bool ((decide (a0.Holder < a0.Radius)) || (decide (a0.Step > a0.Flute))))] ⟨[[.d (.int .i64 a0.Number),.d (.int .i64 a0.Kind),.d (.int .i64 a0.Radius),.d (.int .i64 a0.Flute),.d (.int .i64 a0.Holder),.d (.int .i64 a0.Step),.d (.int .i64 a0.Feed),.d (.int .i64 a0.Plunge)]],[]⟩ rfl ?_ ?_)))
 refine SWs.region ?_
 rcases Bool.eq_false_or_eq_true (decide (a0.Holder < a0.Radius)) with hb66 | hb66
 simp only [seval,EMK,SL,PB,fld_23_4,sz_2,ag_2,fld_23_2,hb66,eInt]
 simp only [seval,EMK,SL,PB,fld_23_4,sz_2,ag_2,fld_23_2,fld_23_5,fld_23_3,hb66,eInt]
 refine Mir.toK (.cond rfl (fun hb68=>?_) (fun hb68=>?_))
 refine .sR fun e h=>?_
 simp only [seval,EMK,eInt]
 refine mU e (.ret fun e h=>?_) h
 cases h
 simp only [seval,FMK,eInt,Tryz.results11]
 refine .skip (Mir.toK (.sR fun e h=>?_))
 simp only [seval,EMK,eInt]
 refine mU e (.ret fun e h=>?_) h
 cases h
 simp only [seval,FMK,eInt,Tryz.results11]
def to_Find (a0 : (List ApiTool)) (a1 : Int) : Option (Int × Int) := bindO (bindX (guardO (okIdx a0) ( rangeX (fun (i1 : Nat) (e1 : ApiTool) (v1 : Unit)=>bindO (some ()) fun (v2 : Unit)=>if (e1.Number == a1) = true then some (.ret (.ret (i1 : Int))) else some (.go ())) (fun (v1 : Unit)=>some (.go ())) a0 0 ())) fun (v3 : Unit)=>some (-1)) fun (v4 : Int)=>if (decide (v4 < 0)) = true then some (0,4) else some (v4,0)
theorem to_Find_spec {a0 : (List ApiTool)} {a1 : Int} {y : Int × Int} (h : to_Find a0 a1 = some y) : Spec gP 22 [.d (.list (List.map encApiTool a0)),.d (.int .i64 a1)] (.tuple [.d (.int .i64 y.1),.d (.int .i64 y.2)]) := by
 refine spec_mir Tryz.func22 rfl (by kernel_rfl) (by kernel_rfl) (fun y : Int × Int=>.tuple [.d (.int .i64 y.1),.d (.int .i64 y.2)]) ?_ h
 unfold to_Find
 simp only [List.replicate,List.length,nS,nA,Tryz.ntmps22,SV]
 refine .sR fun e h=>?_
 simp only [seval,EMK]
 refine mU e (.seqK (.bind fun v4 hv71=>.region fun e h=>?_)) h
 simp only [seval,EMK]
 refine SpecS.inl Tryz.func40 rfl (by kernel_rfl) (by kernel_rfl) (fun v4 : Int=>.d (.int .i64 v4)) (fun v4=>⟨[[.d (.int .i64 a1)]],[]⟩) hv71 rfl ?_ ?_
 simp only [List.replicate,List.length,nS,nA,Tryz.ntmps40,SV]
 refine .sR fun e h=>?_
 simp only [seval,EMK]
 refine mU e (.seqK (.sR fun e h=>?_)) h
 simp only [seval,EMK,und_28]
 refine mU e (Mir.join (fun v3 : Unit=>(us 19)) (fun v3=>⟨[[.d (.int .i64 a1)]],[]⟩) (fun _=>rfl) ?_ ?_) h
 refine .block (.guard fun q1=>Mir.range (fun (i1 : Nat) (v1 : Unit)=>([.d (.list (List.map encApiTool a0)),.fn 41 [.ptr 0 0],U,U,U,U,U,.d (.int .i64 (a0.length : Int)),.d (.int .i64 (i1 : Int))] ++ us 10)) (fun i1 v1=>⟨[[.d (.int .i64 a1)]],[]⟩) q1 (fun _ _=>rfl) (by simp only [seval,FMK,zNI]) (by simp only [seval,FMK,zNI]) ?_ ?_)
 intro i1 e1 v1 q2
 refine .sR fun e h=>?_
 simp only [seval,EMK,q2]
 refine mU e (.seqK (.condT rfl (.skip (Mir.toK (.seqK (.block (.sR fun e h=>?_))))))) h
 simp only [seval,EMK]
 refine mU e (.seqK (.bind fun v2 h1=>.region fun e h=>?_)) h
 simp only [seval,EMK,und_28,sz_23,q2,Int.toNat_natCast,ag_23]
 refine SpecS.inl Tryz.func41 rfl (by kernel_rfl) (by kernel_rfl) (fun v2 : Unit=>.d (.bool (e1.Number == a1))) (fun v2=>⟨[[.d (.int .i64 a1)]],[]⟩) h1 rfl ?_ ?_
 simp only [List.replicate,List.length,nS,nA,Tryz.ntmps41,SV]
 refine .sR fun e h=>?_
 simp only [seval,EMK]
 refine mU e (.sR fun e h=>?_) h
 simp only [seval,EMK,fld_23_0,sz_3,ag_3]
 refine mU e (.ret fun e h=>?_) h
 cases h
 simp only [seval,FMK,Tryz.results41]
 simp only [seval,EMK]
 refine mU e (.cond rfl (fun h2=>?_) (fun h2=>?_)) h
 refine .sR fun e h=>?_
 simp only [seval,EMK]
 refine mU e (.ret fun e h=>?_) h
 cases h
 simp only [seval,FMK,Tryz.results40]
 refine .skip (Mir.toB (Mir.toK (.region fun e h=>?_)))
 simp only [seval,EMK]
 cases h
 simp only [seval,FMK,Tryz.results40,q2]
 intro v1 q3
 refine .sR fun e h=>?_
 simp only [seval,EMK,q3]
 refine mU e (.seqK (.condF rfl (.exit fun e h=>?_))) h
 cases h
 simp only [seval,FMK,Tryz.results40]
 intro v3
 refine Mir.toK (.sR fun e h=>?_)
 simp only [seval,EMK]
 refine mU e (.ret fun e h=>?_) h
 cases h
 simp only [seval,FMK,Tryz.results40]
 simp only [seval,EMK]
 refine mU e (.seqK (.sR fun e h=>?_)) h
 simp only [seval,EMK]
 refine mU e (.cond rfl (fun h3=>?_) (fun h3=>?_)) h
 refine .sR fun e h=>?_
 simp only [seval,EMK]
 refine mU e (.ret fun e h=>?_) h
 cases h
 simp only [seval,FMK,Tryz.results22]
 refine .skip (Mir.toK (.sR fun e h=>?_))
 simp only [seval,EMK]
 refine mU e (.ret fun e h=>?_) h
 cases h
 simp only [seval,FMK,Tryz.results22]
def to_Magazine (a0 : (List ApiTool)) : Option Int := if (decide ((a0.length : Int) > 200)) = true then some 3 else bindX (guardO (okIdx a0) ( rangeX (fun (i1 : Nat) (e1 : ApiTool) (v1 : Unit)=>bindO (to_Valid e1) fun (y1 : Int)=>if (y1 != 0) = true then some (.ret (.ret y1)) else some (.go ())) (fun (v1 : Unit)=>some (.go ())) a0 0 ())) fun (v2 : Unit)=>bindX (guardO (okIdx a0) ( rangeX (fun (i2 : Nat) (e2 : ApiTool) (v3 : Unit)=>bindO (to_Find a0 e2.Number) fun (y2 : Int × Int)=>if (decide (y2.1 < (i2 : Int))) = true then some (.ret (.ret 5)) else some (.go ())) (fun (v3 : Unit)=>some (.go ())) a0 0 ())) fun (v4 : Unit)=>some 0
theorem to_Magazine_spec {a0 : (List ApiTool)} {y : Int} (h : to_Magazine a0 = some y) : Spec gP 20 [.d (.list (List.map encApiTool a0))] (.d (.int .i64 y)) := by
 refine spec_mir Tryz.func20 rfl (by kernel_rfl) (by kernel_rfl) (fun y : Int=>.d (.int .i64 y)) ?_ h
 unfold to_Magazine
 simp only [List.replicate,List.length,nS,nA,Tryz.ntmps20,SV]
 refine .sR fun e h=>?_
 simp only [seval,EMK]
 refine mU e (.seqK (.sR fun e h=>?_)) h
 simp only [seval,EMK,und_28]
 refine mU e (.cond rfl (fun hb2=>?_) (fun hb2=>?_)) h
 refine .sR fun e h=>?_
 simp only [seval,EMK]
 refine mU e (.ret fun e h=>?_) h
 cases h
 simp only [seval,FMK,Tryz.results20]
 refine .skip (Mir.toK (.seqK (.sR fun e h=>?_)))
 simp only [seval,EMK,und_28]
 refine mU e (Mir.join (fun v2 : Unit=>([.d (.list (List.map encApiTool a0))] ++ us 42)) (fun v2=>⟨[],[]⟩) (fun _=>rfl) ?_ ?_) h
 refine .block (.guard fun qg67=>Mir.range (fun (i1 : Nat) (v1 : Unit)=>([.d (.list (List.map encApiTool a0)),U,U,U,U,U,U,U,U,U,U,U,U,.d (.list (List.map encApiTool a0)),.d (.int .i64 (a0.length : Int)),.d (.int .i64 (i1 : Int))] ++ us 27)) (fun i1 v1=>⟨[],[]⟩) qg67 (fun _ _=>rfl) (by simp only [seval,FMK,zNI]) (by simp only [seval,FMK,zNI]) ?_ ?_)
 intro i1 e1 v1 qr65
 refine .sR fun e h=>?_
 simp only [seval,EMK,qr65]
 refine mU e (.seqK (.condT rfl (.skip (Mir.toK (.seqK (.block (.sR fun e h=>?_))))))) h
 simp only [seval,EMK,und_28,sz_23,qr65,Int.toNat_natCast,ag_23,zero_23]
 refine mU e (.seqK (.bind fun y1 hy70=>.region fun e h=>?_)) h
 simp only [seval,EMK,ag_23,sz_23]
 refine SpecS.by (to_Valid_spec hy70) (by simp only [seval,FMK]) ?_
 simp only [seval,EMK]
 refine mU e (.sR fun e h=>?_) h
 simp only [seval,EMK]
 refine mU e (.cond rfl (fun hb72=>?_) (fun hb72=>?_)) h
 refine .sR fun e h=>?_
 simp only [seval,EMK]
 refine mU e (.ret fun e h=>?_) h
 cases h
 simp only [seval,FMK,Tryz.results20]
 refine .skip (Mir.toB (Mir.toK (.region fun e h=>?_)))
 simp only [seval,EMK]
 cases h
 simp only [seval,FMK,Tryz.results20,qr65]
 intro v1 qd66
 refine .sR fun e h=>?_
 simp only [seval,EMK,qd66]
 refine mU e (.seqK (.condF rfl (.exit fun e h=>?_))) h
 cases h
 simp only [seval,FMK,Tryz.results20]
 intro v2
 refine Mir.toK (.seqK (.sR fun e h=>?_))
 simp only [seval,EMK,und_28]
 refine mU e (Mir.join (fun v4 : Unit=>(us 43)) (fun v4=>⟨[],[]⟩) (fun _=>rfl) ?_ ?_) h
 refine .block (.guard fun q1=>Mir.range (fun (i2 : Nat) (v3 : Unit)=>([.d (.list (List.map encApiTool a0)),U,U,U,U,U,U,U,U,U,U,U,U,U,U,U,U,U,U,U,U,U,U,U,U,.d (.list (List.map encApiTool a0)),.d (.int .i64 (a0.length : Int)),.d (.int .i64 (i2 : Int))] ++ us 15)) (fun i2 v3=>⟨[],[]⟩) q1 (fun _ _=>rfl) (by simp only [seval,FMK,zNI]) (by simp only [seval,FMK,zNI]) ?_ ?_)
 intro i2 e2 v3 q2
 refine .sR fun e h=>?_
 simp only [seval,EMK,q2]
 refine mU e (.seqK (.condT rfl (.skip (Mir.toK (.seqK (.block (.sR fun e h=>?_))))))) h
 simp only [seval,EMK,und_28,sz_23,q2,Int.toNat_natCast,ag_23,zero_23]
 refine mU e (.seqK (.bind fun y2 h1=>.region fun e h=>?_)) h
 simp only [seval,EMK,fld_23_0,sz_3,ag_3]
 refine SpecS.by (to_Find_spec h1) (by simp only [seval,FMK]) ?_
 simp only [seval,EMK]
 refine mU e (.sR fun e h=>?_) h
 simp only [seval,EMK]
 refine mU e (.cond rfl (fun h2=>?_) (fun h2=>?_)) h
 refine .sR fun e h=>?_
 simp only [seval,EMK]
 refine mU e (.ret fun e h=>?_) h
 cases h
 simp only [seval,FMK,Tryz.results20]
 refine .skip (Mir.toB (Mir.toK (.region fun e h=>?_)))
 simp only [seval,EMK]
 cases h
 simp only [seval,FMK,Tryz.results20,q2]
 intro v3 q3
 refine .sR fun e h=>?_
 simp only [seval,EMK,q3]
 refine mU e (.seqK (.condF rfl (.exit fun e h=>?_))) h
 cases h
 simp only [seval,FMK,Tryz.results20]
 intro v4
 refine Mir.toK (.sR fun e h=>?_)
 simp only [seval,EMK]
 refine mU e (.ret fun e h=>?_) h
 cases h
 simp only [seval,FMK,Tryz.results20]
def to_fields  : Option (List (List UInt8)) := some [[114,97,100,105,117,115],[102,108,117,116,101],[104,111,108,100,101,114],[115,116,101,112],[102,101,101,100],[112,108,117,110,103,101]]
theorem to_fields_spec  {y : (List (List UInt8))} (h : to_fields = some y) : Spec gP 57 [] (.d (.list (List.map eStr y))) := by
 refine spec_mir Tryz.func57 rfl (by kernel_rfl) (by kernel_rfl) (fun y : (List (List UInt8))=>.d (.list (List.map eStr y))) ?_ h
 unfold to_fields
 simp only [List.replicate,List.length,nS,nA,Tryz.ntmps57,SV]
 refine .sR fun e h=>?_
 simp only [seval,EMK,eStr]
 refine mU e (.sR fun e h=>?_) h
 simp only [seval,EMK,und_70,sz_9,zero_9,(oL 6),eStr]
 refine mU e (.ret fun e h=>?_) h
 cases h
 simp only [seval,FMK,eStr,Tryz.results57]
def to_line (a0 : ApiTool) : Option (List UInt8) := bindO (strconv_Itoa a0.Number) fun (y1 : (List UInt8))=>bindO (to_KindName a0.Kind) fun (y2 : (List UInt8))=>bindO (bindO (to_fields ) fun (y3 : (List (List UInt8)))=>bindO (gt y3 0) fun (e1 : (List UInt8))=>bindO (dc_Millimetres a0.Radius) fun (y4 : (List UInt8))=>bindO (to_fields ) fun (y5 : (List (List UInt8)))=>bindO (gt y5 1) fun (e2 : (List UInt8))=>bindO (dc_Millimetres a0.Flute) fun (y6 : (List UInt8))=>bindO (to_fields ) fun (y7 : (List (List UInt8)))=>bindO (gt y7 2) fun (e3 : (List UInt8))=>bindO (dc_Millimetres a0.Holder) fun (y8 : (List UInt8))=>bindO (to_fields ) fun (y9 : (List (List UInt8)))=>bindO (gt y9 3) fun (e4 : (List UInt8))=>bindO (dc_Millimetres a0.Step) fun (y10 : (List UInt8))=>bindO (to_fields ) fun (y11 : (List (List UInt8)))=>bindO (gt y11 4) fun (e5 : (List UInt8))=>bindO (dc_Millimetres a0.Feed) fun (y12 : (List UInt8))=>bindO (to_fields ) fun (y13 : (List (List UInt8)))=>bindO (gt y13 5) fun (e6 : (List UInt8))=>bindO (dc_Millimetres a0.Plunge) fun (y14 : (List UInt8))=>some [[116,111,111,108],y1,y2,e1,y4,e2,y6,e3,y8,e4,y10,e5,y12,e6,y14]) fun (v1 : (List (List UInt8)))=>bindO (strings_Join v1 [32]) fun (y15 : (List UInt8))=>some y15
theorem to_line_spec {a0 : ApiTool} {y : (List UInt8)} (h : to_line a0 = some y) : Spec gP 37 [.agg [.d (.int .i64 a0.Number),.d (.int .i64 a0.Kind),.d (.int .i64 a0.Radius),.d (.int .i64 a0.Flute),.d (.int .i64 a0.Holder),.d (.int .i64 a0.Step),.d (.int .i64 a0.Feed),.d (.int .i64 a0.Plunge)]] (.d (.str y)) := by
 refine spec_mir Tryz.func37 rfl (by kernel_rfl) (by kernel_rfl) (fun y : (List UInt8)=>.d (.str y)) ?_ h
 unfold to_line
 simp only [List.replicate,List.length,nS,nA,Tryz.ntmps37,SV]
 refine .sR fun e h=>?_
 simp only [seval,EMK,eInt,eStr]
 refine mU e (.seqK (.bind fun y1 hy1=>.bind fun y2 hy2=>.regionD [] (by kernel_rfl) fun e h=>?_)) h
 simp only [seval,EMK,SB,fld_23_0,sz_3,ag_3,eInt,eStr]
 refine Spec.by (strconv_Itoa_spec hy1) (by simp only [seval,FMK,eInt,eStr]) ?_
 simp only [seval,EMK,SB,fld_23_1,sz_3,ag_3,eInt,eStr]
 refine Spec.by (to_KindName_spec hy2) (by simp only [seval,FMK,eInt,eStr]) ?_
 simp only [seval,EMK,SB,und_70,sz_9,zero_9,(oL 3),eInt,eStr]
 refine mU e (.seqK (.sR fun e h=>?_)) h
 simp only [seval,EMK,fld_23_2,sz_2,ag_2,fld_23_3,fld_23_4,fld_23_5,fld_23_6,fld_23_7,und_48,zero_2,(oL 6),(nr rfl : ((6 : Nat) : Int) = 6),eInt,eStr]
 refine mU e (Mir.joinO (fun v1 : (List (List UInt8))=>([U,U,U,.own 0 (List.map eStr v1)] ++ us 40)) (fun v1=>⟨[[.d (.int .i64 a0.Number),.d (.int .i64 a0.Kind),.d (.int .i64 a0.Radius),.d (.int .i64 a0.Flute),.d (.int .i64 a0.Holder),.d (.int .i64 a0.Step),.d (.int .i64 a0.Feed),.d (.int .i64 a0.Plunge)]],[(9,15)]⟩) (fun _=>rfl) ?_ ?_) h
 refine .block (.loopR 15 (.sR fun e h=>?_))
 simp only [seval,EMK,eInt,eStr]
 refine mU e (.seqK (.condT rfl (.skip (Mir.toK (.seqK (.block (.sR fun e h=>?_))))))) h
 simp only [seval,EMK,und_48,sz_2,ag_2,eInt,eStr]
 refine mU e (.bind fun y3 hy42=>.bind fun e1 q43=>?_) h
 replace q43 := gt_ok q43
 simp only [Int.reduceToNat,Int.reduceLT,Nat.sub_zero,dp0] at q43
 refine .bind fun y4 hy44=>.regionD [] (by kernel_rfl) fun e h=>?_
 simp only [seval,EMK,SB,eInt,eStr]
 refine Spec.by (to_fields_spec hy42) (rfl) ?_
 simp only [seval,EMK,SB,und_70,sz_9,q43,ag_9,eInt,eStr]
 refine Spec.by (dc_Millimetres_spec hy44) (by simp only [seval,FMK,eInt,eStr]) ?_
 simp only [seval,EMK,SB,und_70,sz_9,zero_9,(oL 2),app_70,al_eStr,(oL 5),eInt,eStr]
 refine mU e (.region fun e h=>?_) h
 simp only [seval,EMK,(nr rfl : IntKind.i64.wrap 1 = 1),eInt,eStr]
 refine Mir.useN (e := e) ?_ h
 refine .sR fun e h=>?_
 simp only [seval,EMK,eInt,eStr]
 refine mU e (.seqK (.condT rfl (.skip (Mir.toK (.seqK (.block (.sR fun e h=>?_))))))) h
 simp only [seval,EMK,und_48,sz_2,ag_2,eInt,eStr]
 refine mU e (.bind fun y5 hy48=>.bind fun e2 q49=>?_) h
 replace q49 := gt_ok q49
 simp only [Int.reduceToNat,Int.reduceLT,Nat.sub_zero,dp0] at q49
 refine .bind fun y6 hy50=>.regionD [] (by kernel_rfl) fun e h=>?_
 simp only [seval,EMK,SB,eInt,eStr]
 refine Spec.by (to_fields_spec hy48) (rfl) ?_
 simp only [seval,EMK,SB,und_70,sz_9,q49,ag_9,eInt,eStr]
 refine Spec.by (dc_Millimetres_spec hy50) (by simp only [seval,FMK,eInt,eStr]) ?_
 simp only [seval,EMK,SB,und_70,sz_9,zero_9,(oL 2),app_70,al_eStr,(oL 7),eInt,eStr]
 refine mU e (.region fun e h=>?_) h
 simp only [seval,EMK,(nr rfl : IntKind.i64.wrap 2 = 2),eInt,eStr]
 refine Mir.useN (e := e) ?_ h
 refine .sR fun e h=>?_
 simp only [seval,EMK,eInt,eStr]
 refine mU e (.seqK (.condT rfl (.skip (Mir.toK (.seqK (.block (.sR fun e h=>?_))))))) h
 simp only [seval,EMK,und_48,sz_2,ag_2,eInt,eStr]
 refine mU e (.bind fun y7 hy54=>.bind fun e3 q55=>?_) h
 replace q55 := gt_ok q55
 simp only [Int.reduceToNat,Int.reduceLT,Nat.sub_zero,dp0] at q55
 refine .bind fun y8 hy56=>.regionD [] (by kernel_rfl) fun e h=>?_
 simp only [seval,EMK,SB,eInt,eStr]
 refine Spec.by (to_fields_spec hy54) (rfl) ?_
 simp only [seval,EMK,SB,und_70,sz_9,q55,ag_9,eInt,eStr]
 refine Spec.by (dc_Millimetres_spec hy56) (by simp only [seval,FMK,eInt,eStr]) ?_
 simp only [seval,EMK,SB,und_70,sz_9,zero_9,(oL 2),app_70,al_eStr,(oL 9),eInt,eStr]
 refine mU e (.region fun e h=>?_) h
 simp only [seval,EMK,(nr rfl : IntKind.i64.wrap 3 = 3),eInt,eStr]
 refine Mir.useN (e := e) ?_ h
 refine .sR fun e h=>?_
 simp only [seval,EMK,eInt,eStr]
 refine mU e (.seqK (.condT rfl (.skip (Mir.toK (.seqK (.block (.sR fun e h=>?_))))))) h
 simp only [seval,EMK,und_48,sz_2,ag_2,eInt,eStr]
 refine mU e (.bind fun y9 hy60=>.bind fun e4 q61=>?_) h
 replace q61 := gt_ok q61
 simp only [Int.reduceToNat,Int.reduceLT,Nat.sub_zero,dp0] at q61
 refine .bind fun y10 hy62=>.regionD [] (by kernel_rfl) fun e h=>?_
 simp only [seval,EMK,SB,eInt,eStr]
 refine Spec.by (to_fields_spec hy60) (rfl) ?_
 simp only [seval,EMK,SB,und_70,sz_9,q61,ag_9,eInt,eStr]
 refine Spec.by (dc_Millimetres_spec hy62) (by simp only [seval,FMK,eInt,eStr]) ?_
 simp only [seval,EMK,SB,und_70,sz_9,zero_9,(oL 2),app_70,al_eStr,(oL 11),eInt,eStr]
 refine mU e (.region fun e h=>?_) h
 simp only [seval,EMK,(nr rfl : IntKind.i64.wrap 4 = 4),eInt,eStr]
 refine Mir.useN (e := e) ?_ h
 refine .sR fun e h=>?_
 simp only [seval,EMK,eInt,eStr]
 refine mU e (.seqK (.condT rfl (.skip (Mir.toK (.seqK (.block (.sR fun e h=>?_))))))) h
 simp only [seval,EMK,und_48,sz_2,ag_2,eInt,eStr]
 refine mU e (.bind fun y11 hy66=>.bind fun e5 q67=>?_) h
 replace q67 := gt_ok q67
 simp only [Int.reduceToNat,Int.reduceLT,Nat.sub_zero,dp0] at q67
 refine .bind fun y12 hy68=>.regionD [] (by kernel_rfl) fun e h=>?_
 simp only [seval,EMK,SB,eInt,eStr]
 refine Spec.by (to_fields_spec hy66) (rfl) ?_
 simp only [seval,EMK,SB,und_70,sz_9,q67,ag_9,eInt,eStr]
 refine Spec.by (dc_Millimetres_spec hy68) (by simp only [seval,FMK,eInt,eStr]) ?_
 simp only [seval,EMK,SB,und_70,sz_9,zero_9,(oL 2),app_70,al_eStr,(oL 13),eInt,eStr]
 refine mU e (.region fun e h=>?_) h
 simp only [seval,EMK,(nr rfl : IntKind.i64.wrap 5 = 5),eInt,eStr]
 refine Mir.useN (e := e) ?_ h
 refine .sR fun e h=>?_
 simp only [seval,EMK,eInt,eStr]
 refine mU e (.seqK (.condT rfl (.skip (Mir.toK (.seqK (.block (.sR fun e h=>?_))))))) h
 simp only [seval,EMK,und_48,sz_2,ag_2,eInt,eStr]
 refine mU e (.bind fun y13 hy72=>.bind fun e6 q73=>?_) h
 replace q73 := gt_ok q73
 simp only [Int.reduceToNat,Int.reduceLT,Nat.sub_zero,dp0] at q73
 refine .bind fun y14 hy74=>.regionD [] (by kernel_rfl) fun e h=>?_
 simp only [seval,EMK,SB,eInt,eStr]
 refine Spec.by (to_fields_spec hy72) (rfl) ?_
 simp only [seval,EMK,SB,und_70,sz_9,q73,ag_9,eInt,eStr]
 refine Spec.by (dc_Millimetres_spec hy74) (by simp only [seval,FMK,eInt,eStr]) ?_
 simp only [seval,EMK,SB,und_70,sz_9,zero_9,(oL 2),app_70,al_eStr,(oL 15),eInt,eStr]
 refine mU e (.region fun e h=>?_) h
 simp only [seval,EMK,(nr rfl : IntKind.i64.wrap 6 = 6),eInt,eStr]
 refine Mir.useN (e := e) ?_ h
 refine .sR fun e h=>?_
 simp only [seval,EMK,eInt,eStr]
 refine mU e (.seqK (.condF rfl (.exit fun e h=>?_))) h
 cases h
 simp only [seval,FMK,eInt,eStr,Tryz.results37]
 intro v1
 refine Mir.toK (.seqK (.bind fun y15 hy75=>.region fun e h=>?_))
 simp only [seval,EMK,eInt,eStr]
 refine SpecS.by (strings_Join_spec hy75) (by simp only [seval,FMK,eInt,eStr]) ?_
 simp only [seval,EMK,eInt,eStr]
 refine mU e (.ret fun e h=>?_) h
 cases h
 simp only [seval,FMK,eInt,eStr,Tryz.results37]
def to_Format (a0 : (List ApiTool)) : Option ((List UInt8) × Int) := bindO (to_Magazine a0) fun (y1 : Int)=>if (y1 != 0) = true then some ([],y1) else bindO (guardO (okIdx a0) ( rangeX (fun (i1 : Nat) (e1 : ApiTool) (v1 : (List UInt8))=>bindO (to_line e1) fun (y2 : (List UInt8))=>guardO (okStr y2 [10]) ( guardO (okLen (v1.length + (y2 ++ [10]).length)) ( some (.go (v1 ++ (y2 ++ [10])))))) (fun (v1 : (List UInt8))=>some v1) a0 0 [])) fun (v2 : (List UInt8))=>some (v2,0)
theorem to_Format_spec {a0 : (List ApiTool)} {y : (List UInt8) × Int} (h : to_Format a0 = some y) : Spec gP 16 [.d (.list (List.map encApiTool a0))] (.tuple [.d (.str y.1),.d (.int .i64 y.2)]) := by
 refine spec_mir Tryz.func16 rfl (by kernel_rfl) (by kernel_rfl) (fun y : (List UInt8) × Int=>.tuple [.d (.str y.1),.d (.int .i64 y.2)]) ?_ h
 unfold to_Format
 simp only [List.replicate,List.length,nS,nA,Tryz.ntmps16,SV]
 refine .sR fun e h=>?_
 simp only [seval,EMK]
 refine mU e (.seqK (.seqK (.bind fun y1 hy1=>.region fun e h=>?_))) h
 simp only [seval,EMK]
 refine SpecS.by (to_Magazine_spec hy1) (by simp only [seval,FMK]) ?_
 simp only [seval,EMK]
 refine mU e (.sR fun e h=>?_) h
 simp only [seval,EMK]
 refine mU e (.cond rfl (fun hb3=>?_) (fun hb3=>?_)) h
 refine .sR fun e h=>?_
 simp only [seval,EMK]
 refine mU e (.ret fun e h=>?_) h
 cases h
 simp only [seval,FMK,Tryz.results16]
 refine .skip (Mir.toK (.seqK (.regionW fun e h=>regW.alt 0 rfl ?_)))
 simp only [seval,EMK,w_none,w_eq]
 refine alt_allocB (e := 5) (zv := .agg #[.pointer none,.slice none 0 0]) rfl (by kernel_rfl) rfl (regW.of ?_)
 simp only [seval,EMK,w_none,w_eq]
 refine mU e (.seqK (.sR fun e h=>?_)) h
 simp only [seval,EMK,und_28]
 refine mU e (Mir.joinO (fun v2 : (List UInt8)=>([U,U,U,U,U,.ptr 0 0] ++ us 19)) (fun v2=>⟨[[.adr 0,.own 0 (List.map byteE v2)]],[(5,v2.length)]⟩) (fun _=>rfl) ?_ ?_) h
 refine .block (.guard fun qg75=>Mir.range (fun (i1 : Nat) (v1 : (List UInt8))=>([U,U,U,U,U,.ptr 0 0,U,U,U,U,U,U,U,.d (.list (List.map encApiTool a0)),.d (.int .i64 (a0.length : Int)),.d (.int .i64 (i1 : Int))] ++ us 9)) (fun i1 v1=>⟨[[.adr 0,.own 0 (List.map byteE v1)]],[(5,v1.length)]⟩) qg75 (fun _ _=>rfl) (by simp only [seval,FMK,zNI]) (by simp only [seval,FMK,zNI]) ?_ ?_)
 intro i1 e1 v1 qr73
 refine .sR fun e h=>?_
 simp only [seval,EMK,qr73]
 refine mU e (.seqK (.condT rfl (.skip (Mir.toK (.seqK (.block (.sR fun e h=>?_))))))) h
 simp only [seval,EMK,und_28,sz_23,qr73,Int.toNat_natCast,ag_23,zero_23]
 refine mU e (.bind fun y2 hy79=>.guard fun q80=>?_) h
 replace q80 := okStr_ok q80
 try simp only [lm,xNA,xCA,xAN,xLC,xLN,xAC,xAL,nA,Nat.zero_add] at q80
 refine .guard fun q81=>.region fun e h=>?_
 simp only [seval,EMK,ag_23,sz_23]
 refine SpecS.by (to_line_spec hy79) (by simp only [seval,FMK]) ?_
 simp only [seval,EMK,q80]
 refine specS_wsN (n := (v1 ++ (y2 ++ [10])).length) rfl (lns_at (by simp only [List.length_map,List.length_append,List.length_nil,List.length_cons,List.map_nil,List.map_cons,xOS,xON] <;> omega)) (ok2 q81 (by simp only [List.length_map,List.length_append,List.length_nil,List.length_cons,List.map_nil,List.map_cons,xOS,xON] <;> omega) rfl) (by simp only [List.length_map,List.length_append,List.length_nil,List.length_cons,List.map_nil,List.map_cons,xOS,xON] <;> omega) ?_
 simp only [seval,EMK]
 refine mU e (.region fun e h=>?_) h
 simp only [seval,EMK]
 cases h
 simp only [seval,FMK,Tryz.results16,qr73]
 intro v1 qd74
 refine .sR fun e h=>?_
 simp only [seval,EMK,qd74]
 refine mU e (.seqK (.condF rfl (.exit fun e h=>?_))) h
 cases h
 simp only [seval,FMK,Tryz.results16]
 intro v2
 refine Mir.toK (.sR fun e h=>?_)
 simp only [seval,EMK]
 refine specS_st rfl (lns_at (by simp only [List.length_map,List.length_append,List.length_nil,List.length_cons,List.map_nil,List.map_cons,xOS,xON] <;> omega)) ?_
 simp only [seval,EMK]
 refine mU e (.ret fun e h=>?_) h
 cases h
 simp only [seval,FMK,Tryz.results16]
def to_read (a0 : (List UInt8)) : Option (ApiTool × Bool) := bindO (strings_Split a0 [32]) fun (y1 : (List (List UInt8)))=>if ((y1.length : Int) != 15) = true then some (ApiTool.mk 0 0 0 0 0 0 0 0,false) else bindO (gt y1 1) fun (e1 : (List UInt8))=>bindO (strconv_AtoiE e1) fun (y2 : Int × Bool)=>if (!y2.2) = true then some (ApiTool.mk 0 0 0 0 0 0 0 0,false) else bindO (gt y1 2) fun (y3 : List UInt8)=>bindX (bindO (gt y1 4) fun (e2 : (List UInt8))=>bindO (dc_FromMillimetres e2) fun (y4 : Int × Int)=>if (y4.2 != 0) = true then some (.ret (ApiTool.mk 0 0 0 0 0 0 0 0,false)) else bindO (gt y1 6) fun (e3 : (List UInt8))=>bindO (dc_FromMillimetres e3) fun (y5 : Int × Int)=>if (y5.2 != 0) = true then some (.ret (ApiTool.mk 0 0 0 0 0 0 0 0,false)) else bindO (gt y1 8) fun (e4 : (List UInt8))=>bindO (dc_FromMillimetres e4) fun (y6 : Int × Int)=>if (y6.2 != 0) = true then some (.ret (ApiTool.mk 0 0 0 0 0 0 0 0,false)) else bindO (gt y1 10) fun (e5 : (List UInt8))=>bindO (dc_FromMillimetres e5) fun (y7 : Int × Int)=>if (y7.2 != 0) = true then some (.ret (ApiTool.mk 0 0 0 0 0 0 0 0,false)) else bindO (gt y1 12) fun (e6 : (List UInt8))=>bindO (dc_FromMillimetres e6) fun (y8 : Int × Int)=>if (y8.2 != 0) = true then some (.ret (ApiTool.mk 0 0 0 0 0 0 0 0,false)) else bindO (gt y1 14) fun (e7 : (List UInt8))=>bindO (dc_FromMillimetres e7) fun (y9 : Int × Int)=>if (y9.2 != 0) = true then some (.ret (ApiTool.mk 0 0 0 0 0 0 0 0,false)) else some (.go (ApiTool.mk y2.1 (kindSel y3 0) y4.1 y5.1 y6.1 y7.1 y8.1 y9.1))) fun (v1 : ApiTool)=>bindO (bindO (to_Valid v1) fun (y10 : Int)=>if (y10 == 0) = true then bindO (to_line v1) fun (y11 : (List UInt8))=>some (y11 == a0) else some false) fun (v2 : Bool)=>some (v1,v2)
theorem to_read_spec {a0 : (List UInt8)} {y : ApiTool × Bool} (h : to_read a0 = some y) : Spec gP 34 [.d (.str a0)] (.tuple [.agg [.d (.int .i64 y.1.Number),.d (.int .i64 y.1.Kind),.d (.int .i64 y.1.Radius),.d (.int .i64 y.1.Flute),.d (.int .i64 y.1.Holder),.d (.int .i64 y.1.Step),.d (.int .i64 y.1.Feed),.d (.int .i64 y.1.Plunge)],.d (.bool y.2)]) := by
 refine spec_mir Tryz.func34 rfl (by kernel_rfl) (by kernel_rfl) (fun y : ApiTool × Bool=>.tuple [.agg [.d (.int .i64 y.1.Number),.d (.int .i64 y.1.Kind),.d (.int .i64 y.1.Radius),.d (.int .i64 y.1.Flute),.d (.int .i64 y.1.Holder),.d (.int .i64 y.1.Step),.d (.int .i64 y.1.Feed),.d (.int .i64 y.1.Plunge)],.d (.bool y.2)]) ?_ h
 unfold to_read
 simp only [List.replicate,List.length,nS,nA,Tryz.ntmps34,SV]
 refine .sR fun e h=>?_
 simp only [seval,EMK,zero_23,eStr]
 refine mU e (.seqK (.bind fun y1 hy1=>.region fun e h=>?_)) h
 simp only [seval,EMK,eStr]
 refine SpecS.by (strings_Split_spec hy1) (by simp only [seval,FMK,eStr]) ?_
 simp only [seval,EMK,eStr]
 refine mU e (.seqK (.sR fun e h=>?_)) h
 simp only [seval,EMK,und_70,eStr]
 refine mU e (.cond rfl (fun hb3=>?_) (fun hb3=>?_)) h
 refine .sR fun e h=>?_
 simp only [seval,EMK,zero_23,pl_23,sz_23]
 refine mU e (.ret fun e h=>?_) h
 cases h
 simp only [seval,FMK,Tryz.results34,ag_23,sz_23]
 refine .skip (Mir.toK (.sR fun e h=>?_))
 simp only [seval,EMK,zero_23,eStr]
 refine mU e (.seqK (.bind fun e1 q4=>?_)) h
 replace q4 := gt_ok q4
 simp only [Int.reduceToNat,Int.reduceLT,Nat.sub_zero,dp0] at q4
 refine .bind fun y2 hy5=>.region fun e h=>?_
 simp only [seval,EMK,und_70,sz_9,q4,ag_9,eStr]
 refine SpecE.by (strconv_AtoiE_spec hy5) rfl (fun t1 p1=>?_)
 simp only [seval,EMK,eStr]
 refine mU e (.seqK (.sR fun e h=>?_)) h
 simp only [seval,EMK,bx_ne,(nr (by kernel_rfl) : ifaceT Tryz.prog 59 = true),eStr]
 refine mU e (.cond rfl (fun hb7=>?_) (fun hb7=>?_)) h
 refine .sR fun e h=>?_
 simp only [seval,EMK,zero_23,pl_23,sz_23,eStr]
 refine mU e (.ret fun e h=>?_) h
 cases h
 simp only [seval,FMK,eStr,Tryz.results34,ag_23,sz_23]
 refine .skip (Mir.toK (.sR fun e h=>?_))
 simp only [seval,EMK,fld_23_0,sz_3,eStr]
 refine mU e (.seqK (.bind fun y3 hy8=>Mir.toolNames (ws := y1) (x := y3) (k := 1) (x0 := .d (.str a0)) (x2 := .ptr 0 0) (F' := ([.d (.str a0),U,.ptr 0 0,U,.d (.list (List.map eStr y1)),.ptr 1 0] ++ us 80)) (S' := ⟨[[.d (.int .i64 0),.d (.int .i64 0),.d (.int .i64 0),.d (.int .i64 0),.d (.int .i64 0),.d (.int .i64 0),.d (.int .i64 0),.d (.int .i64 0)],[.d (.int .i64 y2.1),.d (.int .i64 (kindSel y3 0)),.d (.int .i64 0),.d (.int .i64 0),.d (.int .i64 0),.d (.int .i64 0),.d (.int .i64 0),.d (.int .i64 0)]],[]⟩) (by rfl) hy8 rfl rfl (by rfl) (by rfl) (Mir.toK (.seqK (.sR fun e h=>?_))))) h
 simp only [seval,EMK,fld_23_2,sz_2,fld_23_3,fld_23_4,fld_23_5,fld_23_6,fld_23_7,und_73,sz_72,zero_72,(oL 6),(nr rfl : ((6 : Nat) : Int) = 6),eStr]
 refine mU e (Mir.join (fun v1 : ApiTool=>([.d (.str a0),U,.ptr 0 0,U,U,.ptr 1 0] ++ us 80)) (fun v1=>⟨[[.d (.int .i64 0),.d (.int .i64 0),.d (.int .i64 0),.d (.int .i64 0),.d (.int .i64 0),.d (.int .i64 0),.d (.int .i64 0),.d (.int .i64 0)],[.d (.int .i64 v1.Number),.d (.int .i64 v1.Kind),.d (.int .i64 v1.Radius),.d (.int .i64 v1.Flute),.d (.int .i64 v1.Holder),.d (.int .i64 v1.Step),.d (.int .i64 v1.Feed),.d (.int .i64 v1.Plunge)],[.ptr 1 2,.ptr 1 3,.ptr 1 4,.ptr 1 5,.ptr 1 6,.ptr 1 7]],[]⟩) (fun _=>rfl) ?_ ?_) h
 refine .block (.loopR 15 (.sR fun e h=>?_))
 simp only [seval,EMK,eStr]
 refine mU e (.seqK (.condT rfl (.skip (Mir.toK (.seqK (.block (.sR fun e h=>?_))))))) h
 simp only [seval,EMK,und_73,sz_72,ag_72,eStr]
 refine mU e (.seqK (.bind fun e2 q61=>?_)) h
 replace q61 := gt_ok q61
 simp only [Int.reduceToNat,Int.reduceLT,Nat.sub_zero,dp0] at q61
 refine .bind fun y4 hy62=>.region fun e h=>?_
 simp only [seval,EMK,(nr rfl : IntKind.i64.wrap 0 = 0),(nr rfl : IntKind.i64.wrap 4 = 4),und_70,sz_9,q61,ag_9,eStr]
 refine SpecS.by (dc_FromMillimetres_spec hy62) (by simp only [seval,FMK,eStr]) ?_
 simp only [seval,EMK,eStr]
 refine mU e (.seqK (.sR fun e h=>?_)) h
 simp only [seval,EMK,eStr]
 refine mU e (.cond rfl (fun hb64=>?_) (fun hb64=>?_)) h
 refine .sR fun e h=>?_
 simp only [seval,EMK,zero_23,pl_23,sz_23,eStr]
 refine mU e (.ret fun e h=>?_) h
 cases h
 simp only [seval,FMK,eStr,Tryz.results34,ag_23,sz_23]
 refine .skip (Mir.toK (.region fun e h=>?_))
 simp only [seval,EMK,sz_2,eStr]
 refine mU e (.region fun e h=>?_) h
 simp only [seval,EMK,(nr rfl : IntKind.i64.wrap 1 = 1),eStr]
 refine Mir.useN (e := e) ?_ h
 refine .sR fun e h=>?_
 simp only [seval,EMK,eStr]
 refine mU e (.seqK (.condT rfl (.skip (Mir.toK (.seqK (.block (.sR fun e h=>?_))))))) h
 simp only [seval,EMK,und_73,sz_72,ag_72,eStr]
 refine mU e (.seqK (.bind fun e3 q69=>?_)) h
 replace q69 := gt_ok q69
 simp only [Int.reduceToNat,Int.reduceLT,Nat.sub_zero,dp0] at q69
 refine .bind fun y5 hy70=>.region fun e h=>?_
 simp only [seval,EMK,(nr rfl : IntKind.i64.wrap 2 = 2),(nr rfl : IntKind.i64.wrap 6 = 6),und_70,sz_9,q69,ag_9,eStr]
 refine SpecS.by (dc_FromMillimetres_spec hy70) (by simp only [seval,FMK,eStr]) ?_
 simp only [seval,EMK,eStr]
 refine mU e (.seqK (.sR fun e h=>?_)) h
 simp only [seval,EMK,eStr]
 refine mU e (.cond rfl (fun hb72=>?_) (fun hb72=>?_)) h
 refine .sR fun e h=>?_
 simp only [seval,EMK,zero_23,pl_23,sz_23,eStr]
 refine mU e (.ret fun e h=>?_) h
 cases h
 simp only [seval,FMK,eStr,Tryz.results34,ag_23,sz_23]
 refine .skip (Mir.toK (.region fun e h=>?_))
 simp only [seval,EMK,sz_2,eStr]
 refine mU e (.region fun e h=>?_) h
 simp only [seval,EMK,(nr rfl : IntKind.i64.wrap 2 = 2),eStr]
 refine Mir.useN (e := e) ?_ h
 refine .sR fun e h=>?_
 simp only [seval,EMK,eStr]
 refine mU e (.seqK (.condT rfl (.skip (Mir.toK (.seqK (.block (.sR fun e h=>?_))))))) h
 simp only [seval,EMK,und_73,sz_72,ag_72,eStr]
 refine mU e (.seqK (.bind fun e4 q77=>?_)) h
 replace q77 := gt_ok q77
 simp only [Int.reduceToNat,Int.reduceLT,Nat.sub_zero,dp0] at q77
 refine .bind fun y6 hy78=>.region fun e h=>?_
 simp only [seval,EMK,(nr rfl : IntKind.i64.wrap 4 = 4),(nr rfl : IntKind.i64.wrap 8 = 8),und_70,sz_9,q77,ag_9,eStr]
 refine SpecS.by (dc_FromMillimetres_spec hy78) (by simp only [seval,FMK,eStr]) ?_
 simp only [seval,EMK,eStr]
 refine mU e (.seqK (.sR fun e h=>?_)) h
 simp only [seval,EMK,eStr]
 refine mU e (.cond rfl (fun hb80=>?_) (fun hb80=>?_)) h
 refine .sR fun e h=>?_
 simp only [seval,EMK,zero_23,pl_23,sz_23,eStr]
 refine mU e (.ret fun e h=>?_) h
 cases h
 simp only [seval,FMK,eStr,Tryz.results34,ag_23,sz_23]
 refine .skip (Mir.toK (.region fun e h=>?_))
 simp only [seval,EMK,sz_2,eStr]
 refine mU e (.region fun e h=>?_) h
 simp only [seval,EMK,(nr rfl : IntKind.i64.wrap 3 = 3),eStr]
 refine Mir.useN (e := e) ?_ h
 refine .sR fun e h=>?_
 simp only [seval,EMK,eStr]
 refine mU e (.seqK (.condT rfl (.skip (Mir.toK (.seqK (.block (.sR fun e h=>?_))))))) h
 simp only [seval,EMK,und_73,sz_72,ag_72,eStr]
 refine mU e (.seqK (.bind fun e5 q85=>?_)) h
 replace q85 := gt_ok q85
 simp only [Int.reduceToNat,Int.reduceLT,Nat.sub_zero,dp0] at q85
 refine .bind fun y7 hy86=>.region fun e h=>?_
 simp only [seval,EMK,(nr rfl : IntKind.i64.wrap 6 = 6),(nr rfl : IntKind.i64.wrap 10 = 10),und_70,sz_9,q85,ag_9,eStr]
 refine SpecS.by (dc_FromMillimetres_spec hy86) (by simp only [seval,FMK,eStr]) ?_
 simp only [seval,EMK,eStr]
 refine mU e (.seqK (.sR fun e h=>?_)) h
 simp only [seval,EMK,eStr]
 refine mU e (.cond rfl (fun hb88=>?_) (fun hb88=>?_)) h
 refine .sR fun e h=>?_
 simp only [seval,EMK,zero_23,pl_23,sz_23,eStr]
 refine mU e (.ret fun e h=>?_) h
 cases h
 simp only [seval,FMK,eStr,Tryz.results34,ag_23,sz_23]
 refine .skip (Mir.toK (.region fun e h=>?_))
 simp only [seval,EMK,sz_2,eStr]
 refine mU e (.region fun e h=>?_) h
 simp only [seval,EMK,(nr rfl : IntKind.i64.wrap 4 = 4),eStr]
 refine Mir.useN (e := e) ?_ h
 refine .sR fun e h=>?_
 simp only [seval,EMK,eStr]
 refine mU e (.seqK (.condT rfl (.skip (Mir.toK (.seqK (.block (.sR fun e h=>?_))))))) h
 simp only [seval,EMK,und_73,sz_72,ag_72,eStr]
 refine mU e (.seqK (.bind fun e6 q93=>?_)) h
 replace q93 := gt_ok q93
 simp only [Int.reduceToNat,Int.reduceLT,Nat.sub_zero,dp0] at q93
 refine .bind fun y8 hy94=>.region fun e h=>?_
 simp only [seval,EMK,(nr rfl : IntKind.i64.wrap 8 = 8),(nr rfl : IntKind.i64.wrap 12 = 12),und_70,sz_9,q93,ag_9,eStr]
 refine SpecS.by (dc_FromMillimetres_spec hy94) (by simp only [seval,FMK,eStr]) ?_
 simp only [seval,EMK,eStr]
 refine mU e (.seqK (.sR fun e h=>?_)) h
 simp only [seval,EMK,eStr]
 refine mU e (.cond rfl (fun hb96=>?_) (fun hb96=>?_)) h
 refine .sR fun e h=>?_
 simp only [seval,EMK,zero_23,pl_23,sz_23,eStr]
 refine mU e (.ret fun e h=>?_) h
 cases h
 simp only [seval,FMK,eStr,Tryz.results34,ag_23,sz_23]
 refine .skip (Mir.toK (.region fun e h=>?_))
 simp only [seval,EMK,sz_2,eStr]
 refine mU e (.region fun e h=>?_) h
 simp only [seval,EMK,(nr rfl : IntKind.i64.wrap 5 = 5),eStr]
 refine Mir.useN (e := e) ?_ h
 refine .sR fun e h=>?_
 simp only [seval,EMK,eStr]
 refine mU e (.seqK (.condT rfl (.skip (Mir.toK (.seqK (.block (.sR fun e h=>?_))))))) h
 simp only [seval,EMK,und_73,sz_72,ag_72,eStr]
 refine mU e (.seqK (.bind fun e7 q1=>?_)) h
 replace q1 := gt_ok q1
 simp only [Int.reduceToNat,Int.reduceLT,Nat.sub_zero,dp0] at q1
 refine .bind fun y9 h1=>.region fun e h=>?_
 simp only [seval,EMK,(nr rfl : IntKind.i64.wrap 10 = 10),(nr rfl : IntKind.i64.wrap 14 = 14),und_70,sz_9,q1,ag_9,eStr]
 refine SpecS.by (dc_FromMillimetres_spec h1) (by simp only [seval,FMK,eStr]) ?_
 simp only [seval,EMK,eStr]
 refine mU e (.seqK (.sR fun e h=>?_)) h
 simp only [seval,EMK,eStr]
 refine mU e (.cond rfl (fun h2=>?_) (fun h2=>?_)) h
 refine .sR fun e h=>?_
 simp only [seval,EMK,zero_23,pl_23,sz_23,eStr]
 refine mU e (.ret fun e h=>?_) h
 cases h
 simp only [seval,FMK,eStr,Tryz.results34,ag_23,sz_23]
 refine .skip (Mir.toK (.region fun e h=>?_))
 simp only [seval,EMK,sz_2,eStr]
 refine mU e (.region fun e h=>?_) h
 simp only [seval,EMK,(nr rfl : IntKind.i64.wrap 6 = 6),eStr]
 refine Mir.useN (e := e) ?_ h
 refine .sR fun e h=>?_
 simp only [seval,EMK,eStr]
 refine mU e (.seqK (.condF rfl (.exit fun e h=>?_))) h
 cases h
 simp only [seval,FMK,eStr,Tryz.results34,ag_23,sz_23]
 intro v1
 refine Mir.toK (.seqK (Mir.joinO (fun v2 : Bool=>([U,U,.ptr 0 0,.d (.bool v2)] ++ us 82)) (fun v2=>⟨[[.d (.int .i64 v1.Number),.d (.int .i64 v1.Kind),.d (.int .i64 v1.Radius),.d (.int .i64 v1.Flute),.d (.int .i64 v1.Holder),.d (.int .i64 v1.Step),.d (.int .i64 v1.Feed),.d (.int .i64 v1.Plunge)],[.d (.int .i64 v1.Number),.d (.int .i64 v1.Kind),.d (.int .i64 v1.Radius),.d (.int .i64 v1.Flute),.d (.int .i64 v1.Holder),.d (.int .i64 v1.Step),.d (.int .i64 v1.Feed),.d (.int .i64 v1.Plunge)],[.ptr 1 2,.ptr 1 3,.ptr 1 4,.ptr 1 5,.ptr 1 6,.ptr 1 7]],[]⟩) (fun _=>rfl) ?_ ?_))
 refine .bind fun y10 h3=>.ite (fun h4=>?_) (fun h4=>?_)
 refine .bind fun y11 h5=>.regionD [] (by kernel_rfl) fun e h=>?_
 simp only [seval,EMK,SB,ag_23,sz_23,eStr,h4]
 refine Spec.by (to_Valid_spec h3) (by simp only [seval,FMK,eStr,h4]) ?_
 simp only [seval,EMK,SB,ag_23,sz_23,eStr,h4]
 refine Spec.by (to_line_spec h5) (by simp only [seval,FMK,eStr,h4]) ?_
 simp only [seval,EMK,SB,sz_23,eStr,h4]
 cases h
 simp only [seval,FMK,eStr,h4]
 refine .regionD [] (by kernel_rfl) fun e h=>?_
 simp only [seval,EMK,SB,ag_23,sz_23,eStr,h4]
 refine Spec.by (to_Valid_spec h3) (by simp only [seval,FMK,eStr,h4]) ?_
 simp only [seval,EMK,SB,sz_23,eStr,h4]
 cases h
 simp only [seval,FMK,eStr,h4]
 intro v2
 refine Mir.toK (.ret fun e h=>?_)
 cases h
 simp only [seval,FMK,eStr,Tryz.results34,ag_23,sz_23]
def to_Parse (a0 : (List UInt8)) : Option ((List ApiTool) × Int × Int) := bindX (loopX (fun (v1 : (List UInt8) × (List ApiTool) × Int)=>if (!(v1.1 == [])) = true then bindO (strings_Cut v1.1 [10]) fun (y1 : (List UInt8) × (List UInt8) × Bool)=>bindO (to_read y1.1) fun (y2 : ApiTool × Bool)=>if (decide (v1.2.2 > 200)) = true then some (.ret (.ret ([],v1.2.2,3))) else if (!y2.2 || (!y1.2.2)) = true then some (.ret (.ret ([],v1.2.2,2))) else bindO (to_Find v1.2.1 y2.1.Number) fun (y3 : Int × Int)=>if (y3.2 == 0) = true then some (.ret (.ret ([],v1.2.2,5))) else guardO (okLen (v1.2.1.length + 1)) ( some (.go (y1.2.1,v1.2.1 ++ [y2.1],IntKind.i64.wrap (v1.2.2 + 1)))) else some (.ret (.go v1.2.1))) fuel (a0,[],1)) fun (v2 : (List ApiTool))=>some (v2,0,0)
theorem to_Parse_spec {a0 : (List UInt8)} {y : (List ApiTool) × Int × Int} (h : to_Parse a0 = some y) : Spec gP 13 [.d (.str a0)] (.tuple [.d (.list (List.map encApiTool y.1)),.d (.int .i64 y.2.1),.d (.int .i64 y.2.2)]) := by
 refine spec_mir Tryz.func13 rfl (by kernel_rfl) (by kernel_rfl) (fun y : (List ApiTool) × Int × Int=>.tuple [.d (.list (List.map encApiTool y.1)),.d (.int .i64 y.2.1),.d (.int .i64 y.2.2)]) ?_ h
 unfold to_Parse
 simp only [List.replicate,List.length,nS,nA,Tryz.ntmps13,SV]
 refine .sR fun e h=>?_
 simp only [seval,EMK]
 refine mU e (.sR fun e h=>?_) h
 simp only [seval,EMK]
 refine mU e (.seqK (.sR fun e h=>?_)) h
 simp only [seval,EMK]
 refine mU e (.gh [.slot 5 23] rfl (Mir.join (fun v2 : (List ApiTool)=>([U,U,U,U,U,.own 0 (List.map encApiTool v2)] ++ us 51)) (fun v2=>⟨[],[(23,v2.length)]⟩) (fun _=>rfl) ?_ ?_)) h
 refine .block (Mir.loop (fun v1 : (List UInt8) × (List ApiTool) × Int=>([.d (.str v1.1),U,U,U,U,.own 0 (List.map encApiTool v1.2.1),.d (.int .i64 v1.2.2)] ++ us 50)) (fun v1=>⟨[],[(23,v1.2.1.length)]⟩) (fun _=>rfl) (by simp only [seval,FMK]) (by simp only [seval,FMK]) fun v1=>.seqK (.sR fun e h=>?_))
 simp only [seval,EMK]
 refine mU e (.cond rfl (fun h1=>?_) (fun h1=>?_)) h
 refine .skip (Mir.toK (.seqK (.block (.seqK (.bind fun y1 h2=>.region fun e h=>?_)))))
 simp only [seval,EMK]
 refine SpecS.by (strings_Cut_spec h2) (by simp only [seval,FMK]) ?_
 simp only [seval,EMK]
 refine mU e (.seqK (.bind fun y2 h3=>.region fun e h=>?_)) h
 simp only [seval,EMK]
 refine SpecS.by (to_read_spec h3) (by simp only [seval,FMK]) ?_
 simp only [seval,EMK,zero_23,sz_23]
 refine mU e (.seqK (.block (.sR fun e h=>?_))) h
 simp only [seval,EMK]
 refine mU e (.cond rfl (fun h4=>?_) (fun h4=>?_)) h
 refine .sR fun e h=>?_
 simp only [seval,EMK]
 refine mU e (.ret fun e h=>?_) h
 cases h
 simp only [seval,FMK,Tryz.results13]
 refine .seqK (.joinV ([U,U,U,U,U,.own 0 (List.map encApiTool v1.2.1),.d (.int .i64 v1.2.2),U,.d (.str y1.2.1),U,.ptr 0 0,U,U,U,U,U,U,U,U,U,U,U,U,U,U,U,U,U,U,U,U,U,U,.d (.bool (!y2.2 || (!y1.2.2)))] ++ us 23) ⟨[[.d (.int .i64 y2.1.Number),.d (.int .i64 y2.1.Kind),.d (.int .i64 y2.1.Radius),.d (.int .i64 y2.1.Flute),.d (.int .i64 y2.1.Holder),.d (.int .i64 y2.1.Step),.d (.int .i64 y2.1.Feed),.d (.int .i64 y2.1.Plunge)]],[(23,v1.2.1.length)]⟩ rfl ?_ ?_)
 refine SWs.region ?_
 rcases Bool.eq_false_or_eq_true (y2.2) with h5 | h5
 simp only [seval,EMK,SL,PB,h5]
 simp only [seval,EMK,SL,PB,h5]
 refine Mir.toK (.cond rfl (fun h6=>?_) (fun h6=>?_))
 refine .sR fun e h=>?_
 simp only [seval,EMK]
 refine mU e (.ret fun e h=>?_) h
 cases h
 simp only [seval,FMK,Tryz.results13]
 refine .skip (Mir.toB (Mir.toK (.seqK (.seqK (.bind fun y3 h7=>.region fun e h=>?_)))))
 simp only [seval,EMK,fld_23_0,sz_3,ag_3]
 refine SpecS.by (to_Find_spec h7) (by simp only [seval,FMK]) ?_
 simp only [seval,EMK]
 refine mU e (.sR fun e h=>?_) h
 simp only [seval,EMK]
 refine mU e (.cond rfl (fun h8=>?_) (fun h8=>?_)) h
 refine .sR fun e h=>?_
 simp only [seval,EMK]
 refine mU e (.ret fun e h=>?_) h
 cases h
 simp only [seval,FMK,Tryz.results13]
 refine .skip (Mir.toK (.guard fun q1=>.region fun e h=>?_))
 simp only [seval,EMK,ag_23,sz_23,und_28,zero_23,(oL 8),app_28,al_ApiTool,q1]
 refine mU e (.region fun e h=>?_) h
 simp only [seval,EMK]
 cases h
 simp only [seval,FMK,Tryz.results13]
 refine .exit fun e h=>?_
 cases h
 simp only [seval,FMK,Tryz.results13]
 intro v2
 refine Mir.toK (.sR fun e h=>?_)
 simp only [seval,EMK]
 refine mU e (.ret fun e h=>?_) h
 cases h
 simp only [seval,FMK,Tryz.results13]
def r27_Equal (a0 : (List ApiTool)) (a1 : (List ApiTool)) : Option Bool := if ((a0.length : Int) != (a1.length : Int)) = true then some false else bindX (guardO (okIdx a0) ( rangeX (fun (i1 : Nat) (e1 : ApiTool) (v1 : Unit)=>bindO (gt a1 (i1 : Int)) fun (e2 : ApiTool)=>if (!((e1.Number == e2.Number) && ((e1.Kind == e2.Kind) && ((e1.Radius == e2.Radius) && ((e1.Flute == e2.Flute) && ((e1.Holder == e2.Holder) && ((e1.Step == e2.Step) && ((e1.Feed == e2.Feed) && (e1.Plunge == e2.Plunge))))))))) = true then some (.ret (.ret false)) else some (.go ())) (fun (v1 : Unit)=>some (.go ())) a0 0 ())) fun (v2 : Unit)=>some true
theorem r27_Equal_spec {a0 : (List ApiTool)} {a1 : (List ApiTool)} {y : Bool} (h : r27_Equal a0 a1 = some y) : Spec gP 15 [.d (.list (List.map encApiTool a0)),.d (.list (List.map encApiTool a1))] (.d (.bool y)) := by
 refine spec_mir Tryz.func15 rfl (by kernel_rfl) (by kernel_rfl) (fun y : Bool=>.d (.bool y)) ?_ h
 unfold r27_Equal
 simp only [List.replicate,List.length,nS,nA,Tryz.ntmps15,SV]
 refine .sR fun e h=>?_
 simp only [seval,EMK]
 refine mU e (.seqK (.sR fun e h=>?_)) h
 simp only [seval,EMK,und_28]
 refine mU e (.cond rfl (fun hb2=>?_) (fun hb2=>?_)) h
 refine .sR fun e h=>?_
 simp only [seval,EMK]
 refine mU e (.ret fun e h=>?_) h
 cases h
 simp only [seval,FMK,Tryz.results15]
 refine .skip (Mir.toK (.seqK (.sR fun e h=>?_)))
 simp only [seval,EMK]
 refine mU e (Mir.join (fun v2 : Unit=>(us 26)) (fun v2=>⟨[],[]⟩) (fun _=>rfl) ?_ ?_) h
 refine .block (.guard fun qg67=>Mir.range (fun (i1 : Nat) (v1 : Unit)=>([.d (.list (List.map encApiTool a0)),.d (.list (List.map encApiTool a1)),U,U,U,.d (.int .i64 (i1 : Int))] ++ us 20)) (fun i1 v1=>⟨[],[]⟩) qg67 (fun _ _=>rfl) (by simp only [seval,FMK,zNI]) (by simp only [seval,FMK,zNI]) ?_ ?_)
 intro i1 e1 v1 qr65
 refine .seqK (.sR fun e h=>?_)
 simp only [seval,EMK,und_28,qr65]
 refine mU e (.condT rfl (.skip (Mir.toK (.seqK (.block (.seqK (.bind fun e2 q70=>?_))))))) h
 replace q70 := gt_ok q70
 simp only [Int.toNat_natCast] at q70
 refine .regionD [] (by kernel_rfl) fun e h=>?_
 simp only [seval,EMK,SB,und_28,sz_23,qr65,Int.toNat_natCast,ag_23,q70,gE_23]
 refine mU e (.cond rfl (fun hb72=>?_) (fun hb72=>?_)) h
 refine .sR fun e h=>?_
 simp only [seval,EMK]
 refine mU e (.ret fun e h=>?_) h
 cases h
 simp only [seval,FMK,Tryz.results15]
 refine .skip (Mir.toB (Mir.toK (.region fun e h=>?_)))
 simp only [seval,EMK]
 cases h
 simp only [seval,FMK,Tryz.results15,qr65]
 intro v1 qd66
 refine .seqK (.sR fun e h=>?_)
 simp only [seval,EMK,und_28,qd66]
 refine mU e (.condF rfl (.exit fun e h=>?_)) h
 cases h
 simp only [seval,FMK,Tryz.results15]
 intro v2
 refine Mir.toK (.sR fun e h=>?_)
 simp only [seval,EMK]
 refine mU e (.ret fun e h=>?_) h
 cases h
 simp only [seval,FMK,Tryz.results15]
def l27_awake  : Option Bool := bindO (r27_Standard 1 3000) fun (y1 : ApiTool)=>bindO (to_Format [y1]) fun (y2 : (List UInt8) × Int)=>bindO (to_Parse [116,111,111,108,32,49,32,109,105,108,108,32,114,97,100,105,117,115,32,51,32,102,108,117,116,101,32,50,48,32,104,111,108,100,101,114,32,49,48,32,115,116,101,112,32,49,46,53,32,102,101,101,100,32,50,48,32,112,108,117,110,103,101,32,53,10]) fun (y3 : (List ApiTool) × Int × Int)=>bindO (strings_Replace [116,111,111,108,32,49,32,109,105,108,108,32,114,97,100,105,117,115,32,51,32,102,108,117,116,101,32,50,48,32,104,111,108,100,101,114,32,49,48,32,115,116,101,112,32,49,46,53,32,102,101,101,100,32,50,48,32,112,108,117,110,103,101,32,53,10] [114,97,100,105,117,115,32,51] [114,97,100,105,117,115,32,51,46,48] 1) fun (y4 : (List UInt8))=>bindO (to_Parse y4) fun (y5 : (List ApiTool) × Int × Int)=>bindO (strings_Replace [116,111,111,108,32,49,32,109,105,108,108,32,114,97,100,105,117,115,32,51,32,102,108,117,116,101,32,50,48,32,104,111,108,100,101,114,32,49,48,32,115,116,101,112,32,49,46,53,32,102,101,101,100,32,50,48,32,112,108,117,110,103,101,32,53,10] [104,111,108,100,101,114,32,49,48] [104,111,108,100,101,114,32,50] 1) fun (y6 : (List UInt8))=>bindO (to_Parse y6) fun (y7 : (List ApiTool) × Int × Int)=>bindO (if (y2.2 == 0) = true then if (y2.1 == [116,111,111,108,32,49,32,109,105,108,108,32,114,97,100,105,117,115,32,51,32,102,108,117,116,101,32,50,48,32,104,111,108,100,101,114,32,49,48,32,115,116,101,112,32,49,46,53,32,102,101,101,100,32,50,48,32,112,108,117,110,103,101,32,53,10]) = true then if (y3.2.2 == 0) = true then if (y3.2.1 == 0) = true then bindO (r27_Equal y3.1 [y1]) fun (y8 : Bool)=>if y8 = true then if (y5.2.1 == 1) = true then if (y5.2.2 == 2) = true then some (y7.2.2 == 2) else some false else some false else some false else some false else some false else some false else some false) fun (v1 : Bool)=>some v1
theorem l27_awake_spec  {y : Bool} (h : l27_awake = some y) : Spec gP 10 [] (.d (.bool y)) := by
 refine spec_mir Tryz.func10 rfl (by kernel_rfl) (by kernel_rfl) (fun y : Bool=>.d (.bool y)) ?_ h
 unfold l27_awake
 simp only [List.replicate,List.length,nS,nA,Tryz.ntmps10,SV]
 refine .sR fun e h=>?_
 simp only [seval,EMK,List.append_eq,List.cons_append,List.nil_append]
 refine mU e (.seqK (.bind fun y1 hy1=>.region fun e h=>?_)) h
 simp only [seval,EMK,List.append_eq,List.cons_append,List.nil_append]
 refine SpecS.by (r27_Standard_spec hy1) (by simp only [seval,FMK,List.append_eq,List.cons_append,List.nil_append]) ?_
 simp only [seval,EMK,und_28,sz_23,zero_23,(oL 8),List.append_eq,List.cons_append,List.nil_append]
 refine mU e (.seqK (.bind fun y2 hy2=>.region fun e h=>?_)) h
 simp only [seval,EMK,List.append_eq,List.cons_append,List.nil_append]
 refine SpecS.by (to_Format_spec hy2) (by simp only [seval,FMK,List.append_eq,List.cons_append,List.nil_append]) ?_
 simp only [seval,EMK,List.append_eq,List.cons_append,List.nil_append]
 refine mU e (.seqK (.bind fun y3 hy3=>.region fun e h=>?_)) h
 simp only [seval,EMK,List.append_eq,List.cons_append,List.nil_append]
 refine SpecS.by (to_Parse_spec hy3) (by simp only [seval,FMK,List.append_eq,List.cons_append,List.nil_append]) ?_
 simp only [seval,EMK,List.append_eq,List.cons_append,List.nil_append]
 refine mU e (.seqK (.bind fun y4 hy4=>.bind fun y5 hy5=>.region fun e h=>?_)) h
 simp only [seval,EMK,List.append_eq,List.cons_append,List.nil_append]
 refine SpecS.by (strings_Replace_spec hy4) (by simp only [seval,FMK,List.append_eq,List.cons_append,List.nil_append]) ?_
 simp only [seval,EMK,List.append_eq,List.cons_append,List.nil_append]
 refine SpecS.by (to_Parse_spec hy5) (by simp only [seval,FMK,List.append_eq,List.cons_append,List.nil_append]) ?_
 simp only [seval,EMK,List.append_eq,List.cons_append,List.nil_append]
 refine mU e (.seqK (.bind fun y6 hy6=>.bind fun y7 hy7=>.region fun e h=>?_)) h
 simp only [seval,EMK,List.append_eq,List.cons_append,List.nil_append]
 refine SpecS.by (strings_Replace_spec hy6) (by simp only [seval,FMK,List.append_eq,List.cons_append,List.nil_append]) ?_
 simp only [seval,EMK,List.append_eq,List.cons_append,List.nil_append]
 refine SpecS.by (to_Parse_spec hy7) (by simp only [seval,FMK,List.append_eq,List.cons_append,List.nil_append]) ?_
 simp only [seval,EMK,List.append_eq,List.cons_append,List.nil_append]
 refine mU e (.seqK (Mir.joinO (fun v1 : Bool=>([.d (.bool v1)] ++ us 67)) (fun v1=>⟨[],[]⟩) (fun _=>rfl) ?_ ?_)) h
 refine .ite (fun hb8=>?_) (fun hb8=>?_)
 refine .ite (fun hb9=>?_) (fun hb9=>?_)
 refine .ite (fun hb10=>?_) (fun hb10=>?_)
 refine .ite (fun hb11=>?_) (fun hb11=>?_)
 refine .bind fun y8 hy12=>.ite (fun hb13=>?_) (fun hb13=>?_)
 refine .ite (fun hb14=>?_) (fun hb14=>?_)
 refine .ite (fun hb15=>?_) (fun hb15=>?_)
 refine .region fun e h=>?_
 simp only [seval,EMK,List.append_eq,List.cons_append,List.nil_append,hb8,hb9,hb10,hb11,hb13,hb14,hb15]
 refine SpecS.by (r27_Equal_spec hy12) (by simp only [seval,FMK,List.append_eq,List.cons_append,List.nil_append,hb8,hb9,hb10,hb11,hb13,hb14,hb15]) ?_
 simp only [seval,EMK,List.append_eq,List.cons_append,List.nil_append,hb8,hb9,hb10,hb11,hb13,hb14,hb15]
 cases h
 simp only [seval,FMK,List.append_eq,List.cons_append,List.nil_append,hb8,hb9,hb10,hb11,hb13,hb14,hb15]
 refine .region fun e h=>?_
 simp only [seval,EMK,List.append_eq,List.cons_append,List.nil_append,hb8,hb9,hb10,hb11,hb13,hb14,hb15]
 refine SpecS.by (r27_Equal_spec hy12) (by simp only [seval,FMK,List.append_eq,List.cons_append,List.nil_append,hb8,hb9,hb10,hb11,hb13,hb14,hb15]) ?_
 simp only [seval,EMK,List.append_eq,List.cons_append,List.nil_append,hb8,hb9,hb10,hb11,hb13,hb14,hb15]
 cases h
 simp only [seval,FMK,List.append_eq,List.cons_append,List.nil_append,hb8,hb9,hb10,hb11,hb13,hb14,hb15]
 refine .region fun e h=>?_
 simp only [seval,EMK,List.append_eq,List.cons_append,List.nil_append,hb8,hb9,hb10,hb11,hb13,hb14]
 refine SpecS.by (r27_Equal_spec hy12) (by simp only [seval,FMK,List.append_eq,List.cons_append,List.nil_append,hb8,hb9,hb10,hb11,hb13,hb14]) ?_
 simp only [seval,EMK,List.append_eq,List.cons_append,List.nil_append,hb8,hb9,hb10,hb11,hb13,hb14]
 cases h
 simp only [seval,FMK,List.append_eq,List.cons_append,List.nil_append,hb8,hb9,hb10,hb11,hb13,hb14]
 refine .region fun e h=>?_
 simp only [seval,EMK,List.append_eq,List.cons_append,List.nil_append,hb8,hb9,hb10,hb11,hb13]
 refine SpecS.by (r27_Equal_spec hy12) (by simp only [seval,FMK,List.append_eq,List.cons_append,List.nil_append,hb8,hb9,hb10,hb11,hb13]) ?_
 simp only [seval,EMK,List.append_eq,List.cons_append,List.nil_append,hb8,hb9,hb10,hb11,hb13]
 cases h
 simp only [seval,FMK,List.append_eq,List.cons_append,List.nil_append,hb8,hb9,hb10,hb11,hb13]
 refine .region fun e h=>?_
 simp only [seval,EMK,List.append_eq,List.cons_append,List.nil_append,hb8,hb9,hb10,hb11]
 cases h
 simp only [seval,FMK,List.append_eq,List.cons_append,List.nil_append,hb8,hb9,hb10,hb11]
 refine .region fun e h=>?_
 simp only [seval,EMK,List.append_eq,List.cons_append,List.nil_append,hb8,hb9,hb10]
 cases h
 simp only [seval,FMK,List.append_eq,List.cons_append,List.nil_append,hb8,hb9,hb10]
 refine .region fun e h=>?_
 simp only [seval,EMK,List.append_eq,List.cons_append,List.nil_append,hb8,hb9]
 cases h
 simp only [seval,FMK,List.append_eq,List.cons_append,List.nil_append,hb8,hb9]
 refine .region fun e h=>?_
 simp only [seval,EMK,List.append_eq,List.cons_append,List.nil_append,hb8]
 cases h
 simp only [seval,FMK,List.append_eq,List.cons_append,List.nil_append,hb8]
 intro v1
 refine Mir.toK (.ret fun e h=>?_)
 cases h
 simp only [seval,FMK,List.append_eq,List.cons_append,List.nil_append,Tryz.results10]
def l27_few (a0 : (List ApiTool)) : Option Bool := some ((decide ((a0.length : Int) ≤ 12)) || ((decide ((a0.length : Int) ≥ 195)) && (decide ((a0.length : Int) ≤ 205))))
theorem l27_few_spec {a0 : (List ApiTool)} {y : Bool} (h : l27_few a0 = some y) : Spec gP 17 [.d (.list (List.map encApiTool a0))] (.d (.bool y)) := by
 refine spec_mir Tryz.func17 rfl (by kernel_rfl) (by kernel_rfl) (fun y : Bool=>.d (.bool y)) ?_ h
 unfold l27_few
 simp only [List.replicate,List.length,nS,nA,Tryz.ntmps17,SV]
 refine .sR fun e h=>?_
 simp only [seval,EMK]
 refine mU e (.seqK (.joinV ([U,U,.d (.bool ((decide ((a0.length : Int) ≤ 12)) || ((decide ((a0.length : Int) ≥ 195)) && (decide ((a0.length : Int) ≤ 205)))))] ++ us 13) ⟨[],[]⟩ rfl ?_ ?_)) h
 refine SWs.region ?_
 rcases Bool.eq_false_or_eq_true (decide ((a0.length : Int) ≤ 12)) with hb1 | hb1
 simp only [seval,EMK,SL,PB,und_28,hb1]
 rcases Bool.eq_false_or_eq_true (decide ((a0.length : Int) ≥ 195)) with hb2 | hb2
 simp only [seval,EMK,SL,PB,und_28,hb1,hb2]
 simp only [seval,EMK,SL,PB,und_28,hb1,hb2]
 refine Mir.toK (.ret fun e h=>?_)
 cases h
 simp only [seval,FMK,Tryz.results17]
def slices_Equal_api_Tool_api_Tool (a0 : (List ApiTool)) (a1 : (List ApiTool)) : Option Bool := if ((a0.length : Int) != (a1.length : Int)) = true then some false else bindX (guardO (okIdx a0) ( rangeX (fun (i1 : Nat) (e1 : ApiTool) (v1 : Unit)=>bindO (gt a1 (i1 : Int)) fun (e2 : ApiTool)=>if (!((e1.Number == e2.Number) && ((e1.Kind == e2.Kind) && ((e1.Radius == e2.Radius) && ((e1.Flute == e2.Flute) && ((e1.Holder == e2.Holder) && ((e1.Step == e2.Step) && ((e1.Feed == e2.Feed) && (e1.Plunge == e2.Plunge))))))))) = true then some (.ret (.ret false)) else some (.go ())) (fun (v1 : Unit)=>some (.go ())) a0 0 ())) fun (v2 : Unit)=>some true
theorem slices_Equal_api_Tool_api_Tool_spec {a0 : (List ApiTool)} {a1 : (List ApiTool)} {y : Bool} (h : slices_Equal_api_Tool_api_Tool a0 a1 = some y) : Spec gP 42 [.d (.list (List.map encApiTool a0)),.d (.list (List.map encApiTool a1))] (.d (.bool y)) := by
 refine spec_mir Tryz.func42 rfl (by kernel_rfl) (by kernel_rfl) (fun y : Bool=>.d (.bool y)) ?_ h
 unfold slices_Equal_api_Tool_api_Tool
 simp only [List.replicate,List.length,nS,nA,Tryz.ntmps42,SV]
 refine .sR fun e h=>?_
 simp only [seval,EMK]
 refine mU e (.seqK (.sR fun e h=>?_)) h
 simp only [seval,EMK,und_28]
 refine mU e (.cond rfl (fun hb2=>?_) (fun hb2=>?_)) h
 refine .sR fun e h=>?_
 simp only [seval,EMK]
 refine mU e (.ret fun e h=>?_) h
 cases h
 simp only [seval,FMK,Tryz.results42]
 refine .skip (Mir.toK (.seqK (.sR fun e h=>?_)))
 simp only [seval,EMK,und_28]
 refine mU e (Mir.join (fun v2 : Unit=>(us 26)) (fun v2=>⟨[],[]⟩) (fun _=>rfl) ?_ ?_) h
 refine .block (.guard fun qg67=>Mir.range (fun (i1 : Nat) (v1 : Unit)=>([.d (.list (List.map encApiTool a0)),.d (.list (List.map encApiTool a1)),U,U,U,U,U,U,U,U,U,U,.d (.int .i64 (a0.length : Int)),.d (.int .i64 (i1 : Int))] ++ us 12)) (fun i1 v1=>⟨[],[]⟩) qg67 (fun _ _=>rfl) (by simp only [seval,FMK,zNI]) (by simp only [seval,FMK,zNI]) ?_ ?_)
 intro i1 e1 v1 qr65
 refine .sR fun e h=>?_
 simp only [seval,EMK,qr65]
 refine mU e (.seqK (.condT rfl (.skip (Mir.toK (.seqK (.block (.sR fun e h=>?_))))))) h
 simp only [seval,EMK]
 refine mU e (.seqK (.bind fun e2 q70=>?_)) h
 replace q70 := gt_ok q70
 simp only [Int.toNat_natCast] at q70
 refine .regionD [] (by kernel_rfl) fun e h=>?_
 simp only [seval,EMK,SB,und_28,sz_23,qr65,Int.toNat_natCast,ag_23,q70,gE_23]
 refine mU e (.cond rfl (fun hb72=>?_) (fun hb72=>?_)) h
 refine .sR fun e h=>?_
 simp only [seval,EMK]
 refine mU e (.ret fun e h=>?_) h
 cases h
 simp only [seval,FMK,Tryz.results42]
 refine .skip (Mir.toB (Mir.toK (.region fun e h=>?_)))
 simp only [seval,EMK]
 cases h
 simp only [seval,FMK,Tryz.results42,qr65]
 intro v1 qd66
 refine .sR fun e h=>?_
 simp only [seval,EMK,qd66]
 refine mU e (.seqK (.condF rfl (.exit fun e h=>?_))) h
 cases h
 simp only [seval,FMK,Tryz.results42]
 intro v2
 refine Mir.toK (.sR fun e h=>?_)
 simp only [seval,EMK]
 refine mU e (.ret fun e h=>?_) h
 cases h
 simp only [seval,FMK,Tryz.results42]
def to_Equal (a0 : (List ApiTool)) (a1 : (List ApiTool)) : Option Bool := bindO (slices_Equal_api_Tool_api_Tool a0 a1) fun (y1 : Bool)=>some y1
theorem to_Equal_spec {a0 : (List ApiTool)} {a1 : (List ApiTool)} {y : Bool} (h : to_Equal a0 a1 = some y) : Spec gP 24 [.d (.list (List.map encApiTool a0)),.d (.list (List.map encApiTool a1))] (.d (.bool y)) := by
 refine spec_mir Tryz.func24 rfl (by kernel_rfl) (by kernel_rfl) (fun y : Bool=>.d (.bool y)) ?_ h
 unfold to_Equal
 simp only [List.replicate,List.length,nS,nA,Tryz.ntmps24,SV]
 refine .sR fun e h=>?_
 simp only [seval,EMK]
 refine mU e (.seqK (.bind fun y1 hy1=>.region fun e h=>?_)) h
 simp only [seval,EMK]
 refine SpecS.by (slices_Equal_api_Tool_api_Tool_spec hy1) (by simp only [seval,FMK]) ?_
 simp only [seval,EMK]
 refine mU e (.ret fun e h=>?_) h
 cases h
 simp only [seval,FMK,Tryz.results24]
def r27_length (a0 : Int) : Option Bool := some ((decide (a0 ≥ 1)) && (decide (a0 ≤ 10000000)))
theorem r27_length_spec {a0 : Int} {y : Bool} (h : r27_length a0 = some y) : Spec gP 47 [.d (.int .i64 a0)] (.d (.bool y)) := by
 refine spec_mir Tryz.func47 rfl (by kernel_rfl) (by kernel_rfl) (fun y : Bool=>.d (.bool y)) ?_ h
 unfold r27_length
 simp only [List.replicate,List.length,nS,nA,Tryz.ntmps47,SV]
 refine .sR fun e h=>?_
 simp only [seval,EMK]
 refine mU e (.seqK (.joinV ([U,U,.d (.bool ((decide (a0 ≥ 1)) && (decide (a0 ≤ 10000000))))] ++ us 6) ⟨[],[]⟩ rfl ?_ ?_)) h
 refine SWs.region ?_
 rcases Bool.eq_false_or_eq_true (decide (a0 ≥ 1)) with hb1 | hb1
 simp only [seval,EMK,SL,PB,hb1]
 simp only [seval,EMK,SL,PB,hb1]
 refine Mir.toK (.ret fun e h=>?_)
 cases h
 simp only [seval,FMK,Tryz.results47]
def r27_Good (a0 : ApiTool) : Option Bool := bindO (if (decide (a0.Number ≥ 1)) = true then if (decide (a0.Number ≤ 9999)) = true then if (decide (a0.Kind ≥ 1)) = true then if (decide (a0.Kind ≤ 4)) = true then bindO (r27_length a0.Radius) fun (y1 : Bool)=>if y1 = true then bindO (r27_length a0.Flute) fun (y2 : Bool)=>if y2 = true then bindO (r27_length a0.Step) fun (y3 : Bool)=>if y3 = true then bindO (r27_length a0.Feed) fun (y4 : Bool)=>if y4 = true then bindO (r27_length a0.Plunge) fun (y5 : Bool)=>if y5 = true then if (decide (a0.Holder ≥ a0.Radius)) = true then if (decide (a0.Holder ≤ 10000000)) = true then some (decide (a0.Step ≤ a0.Flute)) else some false else some false else some false else some false else some false else some false else some false else some false else some false else some false else some false) fun (v1 : Bool)=>some v1
theorem r27_Good_spec {a0 : ApiTool} {y : Bool} (h : r27_Good a0 = some y) : Spec gP 32 [.agg [.d (.int .i64 a0.Number),.d (.int .i64 a0.Kind),.d (.int .i64 a0.Radius),.d (.int .i64 a0.Flute),.d (.int .i64 a0.Holder),.d (.int .i64 a0.Step),.d (.int .i64 a0.Feed),.d (.int .i64 a0.Plunge)]] (.d (.bool y)) := by
 refine spec_mir Tryz.func32 rfl (by kernel_rfl) (by kernel_rfl) (fun y : Bool=>.d (.bool y)) ?_ h
 unfold r27_Good
 simp only [List.replicate,List.length,nS,nA,Tryz.ntmps32,SV]
 refine .sR fun e h=>?_
 simp only [seval,EMK]
 refine mU e (.seqK (Mir.joinO (fun v1 : Bool=>([U,U,.d (.bool v1)] ++ us 62)) (fun v1=>⟨[[.d (.int .i64 a0.Number),.d (.int .i64 a0.Kind),.d (.int .i64 a0.Radius),.d (.int .i64 a0.Flute),.d (.int .i64 a0.Holder),.d (.int .i64 a0.Step),.d (.int .i64 a0.Feed),.d (.int .i64 a0.Plunge)]],[]⟩) (fun _=>rfl) ?_ ?_)) h
 refine .ite (fun hb1=>?_) (fun hb1=>?_)
 refine .ite (fun hb2=>?_) (fun hb2=>?_)
 refine .ite (fun hb3=>?_) (fun hb3=>?_)
 refine .ite (fun hb4=>?_) (fun hb4=>?_)
 refine .bind fun y1 hy5=>.ite (fun hb6=>?_) (fun hb6=>?_)
 refine .bind fun y2 hy7=>.ite (fun hb8=>?_) (fun hb8=>?_)
 refine .bind fun y3 hy9=>.ite (fun hb10=>?_) (fun hb10=>?_)
 refine .bind fun y4 hy11=>.ite (fun hb12=>?_) (fun hb12=>?_)
 refine .bind fun y5 hy13=>.ite (fun hb14=>?_) (fun hb14=>?_)
 refine .ite (fun hb15=>?_) (fun hb15=>?_)
 refine .ite (fun hb16=>?_) (fun hb16=>?_)
 refine .region fun e h=>?_
 simp only [seval,EMK,fld_23_0,sz_3,ag_3,fld_23_1,fld_23_2,sz_2,ag_2,hb1,hb2,hb3,hb4,hb6,hb8,hb10,hb12,hb14,hb15,hb16]
 refine SpecS.by (r27_length_spec hy5) (by simp only [seval,FMK,hb1,hb2,hb3,hb4,hb6,hb8,hb10,hb12,hb14,hb15,hb16]) ?_
 simp only [seval,EMK,fld_23_3,sz_2,ag_2,hb1,hb2,hb3,hb4,hb6,hb8,hb10,hb12,hb14,hb15,hb16]
 refine SpecS.by (r27_length_spec hy7) (by simp only [seval,FMK,hb1,hb2,hb3,hb4,hb6,hb8,hb10,hb12,hb14,hb15,hb16]) ?_
 simp only [seval,EMK,fld_23_5,sz_2,ag_2,hb1,hb2,hb3,hb4,hb6,hb8,hb10,hb12,hb14,hb15,hb16]
 refine SpecS.by (r27_length_spec hy9) (by simp only [seval,FMK,hb1,hb2,hb3,hb4,hb6,hb8,hb10,hb12,hb14,hb15,hb16]) ?_
 simp only [seval,EMK,fld_23_6,sz_2,ag_2,hb1,hb2,hb3,hb4,hb6,hb8,hb10,hb12,hb14,hb15,hb16]
 refine SpecS.by (r27_length_spec hy11) (by simp only [seval,FMK,hb1,hb2,hb3,hb4,hb6,hb8,hb10,hb12,hb14,hb15,hb16]) ?_
 simp only [seval,EMK,fld_23_7,sz_2,ag_2,hb1,hb2,hb3,hb4,hb6,hb8,hb10,hb12,hb14,hb15,hb16]
 refine SpecS.by (r27_length_spec hy13) (by simp only [seval,FMK,hb1,hb2,hb3,hb4,hb6,hb8,hb10,hb12,hb14,hb15,hb16]) ?_
 simp only [seval,EMK,fld_23_4,sz_2,ag_2,fld_23_2,fld_23_5,fld_23_3,hb1,hb2,hb3,hb4,hb6,hb8,hb10,hb12,hb14,hb15,hb16]
 cases h
 simp only [seval,FMK,hb1,hb2,hb3,hb4,hb6,hb8,hb10,hb12,hb14,hb15,hb16]
 refine .region fun e h=>?_
 simp only [seval,EMK,fld_23_0,sz_3,ag_3,fld_23_1,fld_23_2,sz_2,ag_2,hb1,hb2,hb3,hb4,hb6,hb8,hb10,hb12,hb14,hb15,hb16]
 refine SpecS.by (r27_length_spec hy5) (by simp only [seval,FMK,hb1,hb2,hb3,hb4,hb6,hb8,hb10,hb12,hb14,hb15,hb16]) ?_
 simp only [seval,EMK,fld_23_3,sz_2,ag_2,hb1,hb2,hb3,hb4,hb6,hb8,hb10,hb12,hb14,hb15,hb16]
 refine SpecS.by (r27_length_spec hy7) (by simp only [seval,FMK,hb1,hb2,hb3,hb4,hb6,hb8,hb10,hb12,hb14,hb15,hb16]) ?_
 simp only [seval,EMK,fld_23_5,sz_2,ag_2,hb1,hb2,hb3,hb4,hb6,hb8,hb10,hb12,hb14,hb15,hb16]
 refine SpecS.by (r27_length_spec hy9) (by simp only [seval,FMK,hb1,hb2,hb3,hb4,hb6,hb8,hb10,hb12,hb14,hb15,hb16]) ?_
 simp only [seval,EMK,fld_23_6,sz_2,ag_2,hb1,hb2,hb3,hb4,hb6,hb8,hb10,hb12,hb14,hb15,hb16]
 refine SpecS.by (r27_length_spec hy11) (by simp only [seval,FMK,hb1,hb2,hb3,hb4,hb6,hb8,hb10,hb12,hb14,hb15,hb16]) ?_
 simp only [seval,EMK,fld_23_7,sz_2,ag_2,hb1,hb2,hb3,hb4,hb6,hb8,hb10,hb12,hb14,hb15,hb16]
 refine SpecS.by (r27_length_spec hy13) (by simp only [seval,FMK,hb1,hb2,hb3,hb4,hb6,hb8,hb10,hb12,hb14,hb15,hb16]) ?_
 simp only [seval,EMK,fld_23_4,sz_2,ag_2,fld_23_2,hb1,hb2,hb3,hb4,hb6,hb8,hb10,hb12,hb14,hb15,hb16]
 cases h
 simp only [seval,FMK,hb1,hb2,hb3,hb4,hb6,hb8,hb10,hb12,hb14,hb15,hb16]
 refine .region fun e h=>?_
 simp only [seval,EMK,fld_23_0,sz_3,ag_3,fld_23_1,fld_23_2,sz_2,ag_2,hb1,hb2,hb3,hb4,hb6,hb8,hb10,hb12,hb14,hb15]
 refine SpecS.by (r27_length_spec hy5) (by simp only [seval,FMK,hb1,hb2,hb3,hb4,hb6,hb8,hb10,hb12,hb14,hb15]) ?_
 simp only [seval,EMK,fld_23_3,sz_2,ag_2,hb1,hb2,hb3,hb4,hb6,hb8,hb10,hb12,hb14,hb15]
 refine SpecS.by (r27_length_spec hy7) (by simp only [seval,FMK,hb1,hb2,hb3,hb4,hb6,hb8,hb10,hb12,hb14,hb15]) ?_
 simp only [seval,EMK,fld_23_5,sz_2,ag_2,hb1,hb2,hb3,hb4,hb6,hb8,hb10,hb12,hb14,hb15]
 refine SpecS.by (r27_length_spec hy9) (by simp only [seval,FMK,hb1,hb2,hb3,hb4,hb6,hb8,hb10,hb12,hb14,hb15]) ?_
 simp only [seval,EMK,fld_23_6,sz_2,ag_2,hb1,hb2,hb3,hb4,hb6,hb8,hb10,hb12,hb14,hb15]
 refine SpecS.by (r27_length_spec hy11) (by simp only [seval,FMK,hb1,hb2,hb3,hb4,hb6,hb8,hb10,hb12,hb14,hb15]) ?_
 simp only [seval,EMK,fld_23_7,sz_2,ag_2,hb1,hb2,hb3,hb4,hb6,hb8,hb10,hb12,hb14,hb15]
 refine SpecS.by (r27_length_spec hy13) (by simp only [seval,FMK,hb1,hb2,hb3,hb4,hb6,hb8,hb10,hb12,hb14,hb15]) ?_
 simp only [seval,EMK,fld_23_4,sz_2,ag_2,fld_23_2,hb1,hb2,hb3,hb4,hb6,hb8,hb10,hb12,hb14,hb15]
 cases h
 simp only [seval,FMK,hb1,hb2,hb3,hb4,hb6,hb8,hb10,hb12,hb14,hb15]
 refine .region fun e h=>?_
 simp only [seval,EMK,fld_23_0,sz_3,ag_3,fld_23_1,fld_23_2,sz_2,ag_2,hb1,hb2,hb3,hb4,hb6,hb8,hb10,hb12,hb14]
 refine SpecS.by (r27_length_spec hy5) (by simp only [seval,FMK,hb1,hb2,hb3,hb4,hb6,hb8,hb10,hb12,hb14]) ?_
 simp only [seval,EMK,fld_23_3,sz_2,ag_2,hb1,hb2,hb3,hb4,hb6,hb8,hb10,hb12,hb14]
 refine SpecS.by (r27_length_spec hy7) (by simp only [seval,FMK,hb1,hb2,hb3,hb4,hb6,hb8,hb10,hb12,hb14]) ?_
 simp only [seval,EMK,fld_23_5,sz_2,ag_2,hb1,hb2,hb3,hb4,hb6,hb8,hb10,hb12,hb14]
 refine SpecS.by (r27_length_spec hy9) (by simp only [seval,FMK,hb1,hb2,hb3,hb4,hb6,hb8,hb10,hb12,hb14]) ?_
 simp only [seval,EMK,fld_23_6,sz_2,ag_2,hb1,hb2,hb3,hb4,hb6,hb8,hb10,hb12,hb14]
 refine SpecS.by (r27_length_spec hy11) (by simp only [seval,FMK,hb1,hb2,hb3,hb4,hb6,hb8,hb10,hb12,hb14]) ?_
 simp only [seval,EMK,fld_23_7,sz_2,ag_2,hb1,hb2,hb3,hb4,hb6,hb8,hb10,hb12,hb14]
 refine SpecS.by (r27_length_spec hy13) (by simp only [seval,FMK,hb1,hb2,hb3,hb4,hb6,hb8,hb10,hb12,hb14]) ?_
 simp only [seval,EMK,hb1,hb2,hb3,hb4,hb6,hb8,hb10,hb12,hb14]
 cases h
 simp only [seval,FMK,hb1,hb2,hb3,hb4,hb6,hb8,hb10,hb12,hb14]
 refine .region fun e h=>?_
 simp only [seval,EMK,fld_23_0,sz_3,ag_3,fld_23_1,fld_23_2,sz_2,ag_2,hb1,hb2,hb3,hb4,hb6,hb8,hb10,hb12]
 refine SpecS.by (r27_length_spec hy5) (by simp only [seval,FMK,hb1,hb2,hb3,hb4,hb6,hb8,hb10,hb12]) ?_
 simp only [seval,EMK,fld_23_3,sz_2,ag_2,hb1,hb2,hb3,hb4,hb6,hb8,hb10,hb12]
 refine SpecS.by (r27_length_spec hy7) (by simp only [seval,FMK,hb1,hb2,hb3,hb4,hb6,hb8,hb10,hb12]) ?_
 simp only [seval,EMK,fld_23_5,sz_2,ag_2,hb1,hb2,hb3,hb4,hb6,hb8,hb10,hb12]
 refine SpecS.by (r27_length_spec hy9) (by simp only [seval,FMK,hb1,hb2,hb3,hb4,hb6,hb8,hb10,hb12]) ?_
 simp only [seval,EMK,fld_23_6,sz_2,ag_2,hb1,hb2,hb3,hb4,hb6,hb8,hb10,hb12]
 refine SpecS.by (r27_length_spec hy11) (by simp only [seval,FMK,hb1,hb2,hb3,hb4,hb6,hb8,hb10,hb12]) ?_
 simp only [seval,EMK,hb1,hb2,hb3,hb4,hb6,hb8,hb10,hb12]
 cases h
 simp only [seval,FMK,hb1,hb2,hb3,hb4,hb6,hb8,hb10,hb12]
 refine .region fun e h=>?_
 simp only [seval,EMK,fld_23_0,sz_3,ag_3,fld_23_1,fld_23_2,sz_2,ag_2,hb1,hb2,hb3,hb4,hb6,hb8,hb10]
 refine SpecS.by (r27_length_spec hy5) (by simp only [seval,FMK,hb1,hb2,hb3,hb4,hb6,hb8,hb10]) ?_
 simp only [seval,EMK,fld_23_3,sz_2,ag_2,hb1,hb2,hb3,hb4,hb6,hb8,hb10]
 refine SpecS.by (r27_length_spec hy7) (by simp only [seval,FMK,hb1,hb2,hb3,hb4,hb6,hb8,hb10]) ?_
 simp only [seval,EMK,fld_23_5,sz_2,ag_2,hb1,hb2,hb3,hb4,hb6,hb8,hb10]
 refine SpecS.by (r27_length_spec hy9) (by simp only [seval,FMK,hb1,hb2,hb3,hb4,hb6,hb8,hb10]) ?_
 simp only [seval,EMK,hb1,hb2,hb3,hb4,hb6,hb8,hb10]
 cases h
 simp only [seval,FMK,hb1,hb2,hb3,hb4,hb6,hb8,hb10]
 refine .region fun e h=>?_
 simp only [seval,EMK,fld_23_0,sz_3,ag_3,fld_23_1,fld_23_2,sz_2,ag_2,hb1,hb2,hb3,hb4,hb6,hb8]
 refine SpecS.by (r27_length_spec hy5) (by simp only [seval,FMK,hb1,hb2,hb3,hb4,hb6,hb8]) ?_
 simp only [seval,EMK,fld_23_3,sz_2,ag_2,hb1,hb2,hb3,hb4,hb6,hb8]
 refine SpecS.by (r27_length_spec hy7) (by simp only [seval,FMK,hb1,hb2,hb3,hb4,hb6,hb8]) ?_
 simp only [seval,EMK,hb1,hb2,hb3,hb4,hb6,hb8]
 cases h
 simp only [seval,FMK,hb1,hb2,hb3,hb4,hb6,hb8]
 refine .region fun e h=>?_
 simp only [seval,EMK,fld_23_0,sz_3,ag_3,fld_23_1,fld_23_2,sz_2,ag_2,hb1,hb2,hb3,hb4,hb6]
 refine SpecS.by (r27_length_spec hy5) (by simp only [seval,FMK,hb1,hb2,hb3,hb4,hb6]) ?_
 simp only [seval,EMK,hb1,hb2,hb3,hb4,hb6]
 cases h
 simp only [seval,FMK,hb1,hb2,hb3,hb4,hb6]
 refine .region fun e h=>?_
 simp only [seval,EMK,fld_23_0,sz_3,ag_3,fld_23_1,hb1,hb2,hb3,hb4]
 cases h
 simp only [seval,FMK,hb1,hb2,hb3,hb4]
 refine .region fun e h=>?_
 simp only [seval,EMK,fld_23_0,sz_3,ag_3,fld_23_1,hb1,hb2,hb3]
 cases h
 simp only [seval,FMK,hb1,hb2,hb3]
 refine .region fun e h=>?_
 simp only [seval,EMK,fld_23_0,sz_3,ag_3,hb1,hb2]
 cases h
 simp only [seval,FMK,hb1,hb2]
 refine .region fun e h=>?_
 simp only [seval,EMK,fld_23_0,sz_3,ag_3,hb1]
 cases h
 simp only [seval,FMK,hb1]
 intro v1
 refine Mir.toK (.ret fun e h=>?_)
 cases h
 simp only [seval,FMK,Tryz.results32]
def r27_Find (a0 : (List ApiTool)) (a1 : Int) : Option (Int × Int) := bindX (guardO (okIdx a0) ( rangeX (fun (i1 : Nat) (e1 : ApiTool) (v1 : Unit)=>if (e1.Number == a1) = true then some (.ret (.ret ((i1 : Int),0))) else some (.go ())) (fun (v1 : Unit)=>some (.go ())) a0 0 ())) fun (v2 : Unit)=>some (0,4)
theorem r27_Find_spec {a0 : (List ApiTool)} {a1 : Int} {y : Int × Int} (h : r27_Find a0 a1 = some y) : Spec gP 23 [.d (.list (List.map encApiTool a0)),.d (.int .i64 a1)] (.tuple [.d (.int .i64 y.1),.d (.int .i64 y.2)]) := by
 refine spec_mir Tryz.func23 rfl (by kernel_rfl) (by kernel_rfl) (fun y : Int × Int=>.tuple [.d (.int .i64 y.1),.d (.int .i64 y.2)]) ?_ h
 unfold r27_Find
 simp only [List.replicate,List.length,nS,nA,Tryz.ntmps23,SV]
 refine .sR fun e h=>?_
 simp only [seval,EMK]
 refine mU e (.seqK (.sR fun e h=>?_)) h
 simp only [seval,EMK]
 refine mU e (Mir.join (fun v2 : Unit=>(us 21)) (fun v2=>⟨[],[]⟩) (fun _=>rfl) ?_ ?_) h
 refine .block (.guard fun qg51=>Mir.range (fun (i1 : Nat) (v1 : Unit)=>([.d (.list (List.map encApiTool a0)),.d (.int .i64 a1),U,U,U,U,.d (.int .i64 (i1 : Int))] ++ us 14)) (fun i1 v1=>⟨[],[]⟩) qg51 (fun _ _=>rfl) (by simp only [seval,FMK,zNI]) (by simp only [seval,FMK,zNI]) ?_ ?_)
 intro i1 e1 v1 qr49
 refine .seqK (.sR fun e h=>?_)
 simp only [seval,EMK,und_28,qr49]
 refine mU e (.condT rfl (.skip (Mir.toK (.seqK (.block (.sR fun e h=>?_)))))) h
 simp only [seval,EMK,und_28,sz_23,qr49,Int.toNat_natCast,fld_23_0,sz_3,ag_3]
 refine mU e (.cond rfl (fun hb54=>?_) (fun hb54=>?_)) h
 refine .sR fun e h=>?_
 simp only [seval,EMK]
 refine mU e (.ret fun e h=>?_) h
 cases h
 simp only [seval,FMK,Tryz.results23]
 refine .skip (Mir.toB (Mir.toK (.region fun e h=>?_)))
 simp only [seval,EMK]
 cases h
 simp only [seval,FMK,Tryz.results23,qr49]
 intro v1 qd50
 refine .seqK (.sR fun e h=>?_)
 simp only [seval,EMK,und_28,qd50]
 refine mU e (.condF rfl (.exit fun e h=>?_)) h
 cases h
 simp only [seval,FMK,Tryz.results23]
 intro v2
 refine Mir.toK (.sR fun e h=>?_)
 simp only [seval,EMK]
 refine mU e (.ret fun e h=>?_) h
 cases h
 simp only [seval,FMK,Tryz.results23]
def r27_Magazine (a0 : (List ApiTool)) : Option Int := if (decide ((a0.length : Int) > 200)) = true then some 3 else bindX (guardO (okIdx a0) ( rangeX (fun (i1 : Nat) (e1 : ApiTool) (v1 : Unit)=>bindO (r27_Good e1) fun (y1 : Bool)=>if (!y1) = true then some (.ret (.ret 1)) else some (.go ())) (fun (v1 : Unit)=>some (.go ())) a0 0 ())) fun (v2 : Unit)=>bindX (guardO (okIdx a0) ( rangeX (fun (i2 : Nat) (e2 : ApiTool) (v3 : Unit)=>bindO (r27_Find a0 e2.Number) fun (y2 : Int × Int)=>if (decide (y2.1 < (i2 : Int))) = true then some (.ret (.ret 5)) else some (.go ())) (fun (v3 : Unit)=>some (.go ())) a0 0 ())) fun (v4 : Unit)=>some 0
theorem r27_Magazine_spec {a0 : (List ApiTool)} {y : Int} (h : r27_Magazine a0 = some y) : Spec gP 21 [.d (.list (List.map encApiTool a0))] (.d (.int .i64 y)) := by
 refine spec_mir Tryz.func21 rfl (by kernel_rfl) (by kernel_rfl) (fun y : Int=>.d (.int .i64 y)) ?_ h
 unfold r27_Magazine
 simp only [List.replicate,List.length,nS,nA,Tryz.ntmps21,SV]
 refine .sR fun e h=>?_
 simp only [seval,EMK]
 refine mU e (.seqK (.sR fun e h=>?_)) h
 simp only [seval,EMK,und_28]
 refine mU e (.cond rfl (fun hb2=>?_) (fun hb2=>?_)) h
 refine .sR fun e h=>?_
 simp only [seval,EMK]
 refine mU e (.ret fun e h=>?_) h
 cases h
 simp only [seval,FMK,Tryz.results21]
 refine .skip (Mir.toK (.seqK (.sR fun e h=>?_)))
 simp only [seval,EMK]
 refine mU e (Mir.join (fun v2 : Unit=>([.d (.list (List.map encApiTool a0))] ++ us 40)) (fun v2=>⟨[],[]⟩) (fun _=>rfl) ?_ ?_) h
 refine .block (.guard fun qg67=>Mir.range (fun (i1 : Nat) (v1 : Unit)=>([.d (.list (List.map encApiTool a0)),U,U,.d (.int .i64 (i1 : Int))] ++ us 37)) (fun i1 v1=>⟨[],[]⟩) qg67 (fun _ _=>rfl) (by simp only [seval,FMK,zNI]) (by simp only [seval,FMK,zNI]) ?_ ?_)
 intro i1 e1 v1 qr65
 refine .seqK (.sR fun e h=>?_)
 simp only [seval,EMK,und_28,qr65]
 refine mU e (.condT rfl (.skip (Mir.toK (.seqK (.block (.seqK (.bind fun y1 hy70=>.region fun e h=>?_))))))) h
 simp only [seval,EMK,und_28,sz_23,qr65,Int.toNat_natCast,ag_23]
 refine SpecS.by (r27_Good_spec hy70) (by simp only [seval,FMK]) ?_
 simp only [seval,EMK]
 refine mU e (.cond rfl (fun hb72=>?_) (fun hb72=>?_)) h
 refine .sR fun e h=>?_
 simp only [seval,EMK]
 refine mU e (.ret fun e h=>?_) h
 cases h
 simp only [seval,FMK,Tryz.results21]
 refine .skip (Mir.toB (Mir.toK (.region fun e h=>?_)))
 simp only [seval,EMK]
 cases h
 simp only [seval,FMK,Tryz.results21,qr65]
 intro v1 qd66
 refine .seqK (.sR fun e h=>?_)
 simp only [seval,EMK,und_28,qd66]
 refine mU e (.condF rfl (.exit fun e h=>?_)) h
 cases h
 simp only [seval,FMK,Tryz.results21]
 intro v2
 refine Mir.toK (.seqK (.sR fun e h=>?_))
 simp only [seval,EMK]
 refine mU e (Mir.join (fun v4 : Unit=>(us 41)) (fun v4=>⟨[],[]⟩) (fun _=>rfl) ?_ ?_) h
 refine .block (.guard fun q1=>Mir.range (fun (i2 : Nat) (v3 : Unit)=>([.d (.list (List.map encApiTool a0)),U,U,U,.d (.int .i64 (i2 : Int))] ++ us 36)) (fun i2 v3=>⟨[],[]⟩) q1 (fun _ _=>rfl) (by simp only [seval,FMK,zNI]) (by simp only [seval,FMK,zNI]) ?_ ?_)
 intro i2 e2 v3 q2
 refine .seqK (.sR fun e h=>?_)
 simp only [seval,EMK,und_28,q2]
 refine mU e (.condT rfl (.skip (Mir.toK (.seqK (.block (.seqK (.bind fun y2 h1=>.region fun e h=>?_))))))) h
 simp only [seval,EMK,und_28,sz_23,q2,Int.toNat_natCast,fld_23_0,sz_3,ag_3]
 refine SpecS.by (r27_Find_spec h1) (by simp only [seval,FMK]) ?_
 simp only [seval,EMK]
 refine mU e (.sR fun e h=>?_) h
 simp only [seval,EMK]
 refine mU e (.cond rfl (fun h2=>?_) (fun h2=>?_)) h
 refine .sR fun e h=>?_
 simp only [seval,EMK]
 refine mU e (.ret fun e h=>?_) h
 cases h
 simp only [seval,FMK,Tryz.results21]
 refine .skip (Mir.toB (Mir.toK (.region fun e h=>?_)))
 simp only [seval,EMK]
 cases h
 simp only [seval,FMK,Tryz.results21,q2]
 intro v3 q3
 refine .seqK (.sR fun e h=>?_)
 simp only [seval,EMK,und_28,q3]
 refine mU e (.condF rfl (.exit fun e h=>?_)) h
 cases h
 simp only [seval,FMK,Tryz.results21]
 intro v4
 refine Mir.toK (.sR fun e h=>?_)
 simp only [seval,EMK]
 refine mU e (.ret fun e h=>?_) h
 cases h
 simp only [seval,FMK,Tryz.results21]
def r27_digitsB (rc : Int → Option ((List UInt8))) (a0 : Int) : Option ((List UInt8)) := if (decide (a0 < 10)) = true then bindO (cutL [48,49,50,51,52,53,54,55,56,57] a0 (IntKind.i64.wrap (a0 + 1))) fun (s1 : (List UInt8))=>some s1 else bindO (rc (IntKind.i64.wrap (Int.tdiv a0 10))) fun (y1 : (List UInt8))=>bindO (rc (Int.tmod a0 10)) fun (y2 : (List UInt8))=>guardO (okStr y1 y2) ( some (y1 ++ y2))
theorem r27_digitsB_spec {rc : Int → Option ((List UInt8))} (ih : ∀ {a0 : Int} {y : (List UInt8)},rc a0 = some y → Spec gP 60 [.d (.int .i64 a0)] (.d (.str y))) {a0 : Int} {y : (List UInt8)} (h : r27_digitsB rc a0 = some y) : Spec gP 60 [.d (.int .i64 a0)] (.d (.str y)) := by
 refine spec_mir Tryz.func60 rfl (by kernel_rfl) (by kernel_rfl) (fun y : (List UInt8)=>.d (.str y)) ?_ h
 unfold r27_digitsB
 simp only [List.replicate,List.length,nS,nA,Tryz.ntmps60,SV]
 refine .sR fun e h=>?_
 simp only [seval,EMK]
 refine mU e (.seqK (.sR fun e h=>?_)) h
 simp only [seval,EMK]
 refine mU e (.cond rfl (fun hb3=>?_) (fun hb3=>?_)) h
 refine .seqK (.bind fun s1 q4=>?_)
 replace q4 := cutL_ok q4
 simp only [xLC,xLN,Nat.zero_add,nA] at q4
 refine .region fun e h=>?_
 simp only [seval,EMK,und_9,q4,Nat.le_refl,and_true,true_and,dm,tm]
 refine mU e (.ret fun e h=>?_) h
 cases h
 simp only [seval,FMK,Tryz.results60]
 refine .skip (Mir.toK (.seqK (.bind fun y1 hy5=>.bind fun y2 hy6=>.guard fun q7=>?_)))
 replace q7 := okStr_ok q7
 refine .region fun e h=>?_
 simp only [seval,EMK]
 refine SpecS.by (ih hy5) (by simp only [seval,FMK]) ?_
 simp only [seval,EMK]
 refine SpecS.by (ih hy6) (by simp only [seval,FMK]) ?_
 simp only [seval,EMK,q7]
 refine mU e (.ret fun e h=>?_) h
 cases h
 simp only [seval,FMK,Tryz.results60]
def r27_digitsN : Nat → Int → Option ((List UInt8)) | 0,_=>none | n + 1,a0=>r27_digitsB (r27_digitsN n) a0
theorem r27_digitsN_spec : ∀ (n : Nat) {a0 : Int} {y : (List UInt8)},r27_digitsN n a0 = some y → Spec gP 60 [.d (.int .i64 a0)] (.d (.str y))
 | 0,_,_,h=>(by cases h)
 | n + 1,_,_,h=>r27_digitsB_spec (fun h=>r27_digitsN_spec n h) h
def r27_digits (a0 : Int) : Option ((List UInt8)) := r27_digitsN 30 a0
theorem r27_digits_spec {a0 : Int} {y : (List UInt8)} (h : r27_digits a0 = some y) : Spec gP 60 [.d (.int .i64 a0)] (.d (.str y)) := r27_digitsN_spec 30 h
def r27_KindName (a0 : Int) : Option (List UInt8) := if (a0 == 1) = true then some [109,105,108,108] else if (a0 == 2) = true then some [100,114,105,108,108] else if (a0 == 3) = true then some [99,104,97,109,102,101,114] else if (a0 == 4) = true then some [112,114,111,98,101] else some []
theorem r27_KindName_spec {a0 : Int} {y : (List UInt8)} (h : r27_KindName a0 = some y) : Spec gP 28 [.d (.int .i64 a0)] (.d (.str y)) := by
 refine spec_mir Tryz.func28 rfl (by kernel_rfl) (by kernel_rfl) (fun y : (List UInt8)=>.d (.str y)) ?_ h
 unfold r27_KindName
 simp only [List.replicate,List.length,nS,nA,Tryz.ntmps28,SV]
 refine .sR fun e h=>?_
 simp only [seval,EMK]
 refine mU e (.seqK (.sR fun e h=>?_)) h
 simp only [seval,EMK]
 refine mU e (.block (.sR fun e h=>?_)) h
 simp only [seval,EMK]
 refine mU e (.cond rfl (fun hb9=>?_) (fun hb9=>?_)) h
 refine .sR fun e h=>?_
 simp only [seval,EMK]
 refine mU e (.ret fun e h=>?_) h
 cases h
 simp only [seval,FMK,Tryz.results28]
 refine .sR fun e h=>?_
 simp only [seval,EMK]
 refine mU e (.cond rfl (fun hb13=>?_) (fun hb13=>?_)) h
 refine .sR fun e h=>?_
 simp only [seval,EMK]
 refine mU e (.ret fun e h=>?_) h
 cases h
 simp only [seval,FMK,Tryz.results28]
 refine .sR fun e h=>?_
 simp only [seval,EMK]
 refine mU e (.cond rfl (fun hb16=>?_) (fun hb16=>?_)) h
 refine .sR fun e h=>?_
 simp only [seval,EMK]
 refine mU e (.ret fun e h=>?_) h
 cases h
 simp only [seval,FMK,Tryz.results28]
 refine .sR fun e h=>?_
 simp only [seval,EMK]
 refine mU e (.cond rfl (fun hb18=>?_) (fun hb18=>?_)) h
 refine .sR fun e h=>?_
 simp only [seval,EMK]
 refine mU e (.ret fun e h=>?_) h
 cases h
 simp only [seval,FMK,Tryz.results28]
 refine .skip (Mir.toB (Mir.toK (.sR fun e h=>?_)))
 simp only [seval,EMK]
 refine mU e (.ret fun e h=>?_) h
 cases h
 simp only [seval,FMK,Tryz.results28]
def r27_Line (a0 : ApiTool) : Option (List UInt8) := bindO (r27_digits a0.Number) fun (y1 : (List UInt8))=>guardO (okStr [116,111,111,108,32] y1) ( guardO (okStr ([116,111,111,108,32] ++ y1) [32]) ( bindO (r27_KindName a0.Kind) fun (y2 : (List UInt8))=>guardO (okStr (([116,111,111,108,32] ++ y1) ++ [32]) y2) ( guardO (okStr ((([116,111,111,108,32] ++ y1) ++ [32]) ++ y2) [32,114,97,100,105,117,115,32]) ( bindO (r06_Millimetres a0.Radius) fun (y3 : (List UInt8))=>guardO (okStr (((([116,111,111,108,32] ++ y1) ++ [32]) ++ y2) ++ [32,114,97,100,105,117,115,32]) y3) ( guardO (okStr ((((([116,111,111,108,32] ++ y1) ++ [32]) ++ y2) ++ [32,114,97,100,105,117,115,32]) ++ y3) [32,102,108,117,116,101,32]) ( bindO (r06_Millimetres a0.Flute) fun (y4 : (List UInt8))=>guardO (okStr (((((([116,111,111,108,32] ++ y1) ++ [32]) ++ y2) ++ [32,114,97,100,105,117,115,32]) ++ y3) ++ [32,102,108,117,116,101,32]) y4) ( guardO (okStr ((((((([116,111,111,108,32] ++ y1) ++ [32]) ++ y2) ++ [32,114,97,100,105,117,115,32]) ++ y3) ++ [32,102,108,117,116,101,32]) ++ y4) [32,104,111,108,100,101,114,32]) ( bindO (r06_Millimetres a0.Holder) fun (y5 : (List UInt8))=>guardO (okStr (((((((([116,111,111,108,32] ++ y1) ++ [32]) ++ y2) ++ [32,114,97,100,105,117,115,32]) ++ y3) ++ [32,102,108,117,116,101,32]) ++ y4) ++ [32,104,111,108,100,101,114,32]) y5) ( guardO (okStr ((((((((([116,111,111,108,32] ++ y1) ++ [32]) ++ y2) ++ [32,114,97,100,105,117,115,32]) ++ y3) ++ [32,102,108,117,116,101,32]) ++ y4) ++ [32,104,111,108,100,101,114,32]) ++ y5) [32,115,116,101,112,32]) ( bindO (r06_Millimetres a0.Step) fun (y6 : (List UInt8))=>guardO (okStr (((((((((([116,111,111,108,32] ++ y1) ++ [32]) ++ y2) ++ [32,114,97,100,105,117,115,32]) ++ y3) ++ [32,102,108,117,116,101,32]) ++ y4) ++ [32,104,111,108,100,101,114,32]) ++ y5) ++ [32,115,116,101,112,32]) y6) ( guardO (okStr ((((((((((([116,111,111,108,32] ++ y1) ++ [32]) ++ y2) ++ [32,114,97,100,105,117,115,32]) ++ y3) ++ [32,102,108,117,116,101,32]) ++ y4) ++ [32,104,111,108,100,101,114,32]) ++ y5) ++ [32,115,116,101,112,32]) ++ y6) [32,102,101,101,100,32]) ( bindO (r06_Millimetres a0.Feed) fun (y7 : (List UInt8))=>guardO (okStr (((((((((((([116,111,111,108,32] ++ y1) ++ [32]) ++ y2) ++ [32,114,97,100,105,117,115,32]) ++ y3) ++ [32,102,108,117,116,101,32]) ++ y4) ++ [32,104,111,108,100,101,114,32]) ++ y5) ++ [32,115,116,101,112,32]) ++ y6) ++ [32,102,101,101,100,32]) y7) ( guardO (okStr ((((((((((((([116,111,111,108,32] ++ y1) ++ [32]) ++ y2) ++ [32,114,97,100,105,117,115,32]) ++ y3) ++ [32,102,108,117,116,101,32]) ++ y4) ++ [32,104,111,108,100,101,114,32]) ++ y5) ++ [32,115,116,101,112,32]) ++ y6) ++ [32,102,101,101,100,32]) ++ y7) [32,112,108,117,110,103,101,32]) ( bindO (r06_Millimetres a0.Plunge) fun (y8 : (List UInt8))=>guardO (okStr (((((((((((((([116,111,111,108,32] ++ y1) ++ [32]) ++ y2) ++ [32,114,97,100,105,117,115,32]) ++ y3) ++ [32,102,108,117,116,101,32]) ++ y4) ++ [32,104,111,108,100,101,114,32]) ++ y5) ++ [32,115,116,101,112,32]) ++ y6) ++ [32,102,101,101,100,32]) ++ y7) ++ [32,112,108,117,110,103,101,32]) y8) ( some ((((((((((((((([116,111,111,108,32] ++ y1) ++ [32]) ++ y2) ++ [32,114,97,100,105,117,115,32]) ++ y3) ++ [32,102,108,117,116,101,32]) ++ y4) ++ [32,104,111,108,100,101,114,32]) ++ y5) ++ [32,115,116,101,112,32]) ++ y6) ++ [32,102,101,101,100,32]) ++ y7) ++ [32,112,108,117,110,103,101,32]) ++ y8))))))))))))))))
theorem r27_Line_spec {a0 : ApiTool} {y : (List UInt8)} (h : r27_Line a0 = some y) : Spec gP 39 [.agg [.d (.int .i64 a0.Number),.d (.int .i64 a0.Kind),.d (.int .i64 a0.Radius),.d (.int .i64 a0.Flute),.d (.int .i64 a0.Holder),.d (.int .i64 a0.Step),.d (.int .i64 a0.Feed),.d (.int .i64 a0.Plunge)]] (.d (.str y)) := by
 refine spec_mir Tryz.func39 rfl (by kernel_rfl) (by kernel_rfl) (fun y : (List UInt8)=>.d (.str y)) ?_ h
 unfold r27_Line
 simp only [List.replicate,List.length,nS,nA,Tryz.ntmps39,SV]
 refine .sR fun e h=>?_
 simp only [seval,EMK]
 refine mU e (.seqK (.bind fun y1 hy1=>.guard fun q2=>?_)) h
 replace q2 := okStr_ok q2
 try simp only [lm,xNA,xCA,xAN,xLC,xLN,xAC,xAL,nA,Nat.zero_add] at q2
 refine .guard fun q3=>?_
 replace q3 := okStr_ok q3
 try simp only [lm,xNA,xCA,xAN,xLC,xLN,xAC,xAL,nA,Nat.zero_add] at q3
 refine .bind fun y2 hy4=>.guard fun q5=>?_
 replace q5 := okStr_ok q5
 try simp only [lm,xNA,xCA,xAN,xLC,xLN,xAC,xAL,nA,Nat.zero_add] at q5
 refine .guard fun q6=>?_
 replace q6 := okStr_ok q6
 try simp only [lm,xNA,xCA,xAN,xLC,xLN,xAC,xAL,nA,Nat.zero_add] at q6
 refine .bind fun y3 hy7=>.guard fun q8=>?_
 replace q8 := okStr_ok q8
 try simp only [lm,xNA,xCA,xAN,xLC,xLN,xAC,xAL,nA,Nat.zero_add] at q8
 refine .guard fun q9=>?_
 replace q9 := okStr_ok q9
 try simp only [lm,xNA,xCA,xAN,xLC,xLN,xAC,xAL,nA,Nat.zero_add] at q9
 refine .bind fun y4 hy10=>.guard fun q11=>?_
 replace q11 := okStr_ok q11
 try simp only [lm,xNA,xCA,xAN,xLC,xLN,xAC,xAL,nA,Nat.zero_add] at q11
 refine .guard fun q12=>?_
 replace q12 := okStr_ok q12
 try simp only [lm,xNA,xCA,xAN,xLC,xLN,xAC,xAL,nA,Nat.zero_add] at q12
 refine .bind fun y5 hy13=>.guard fun q14=>?_
 replace q14 := okStr_ok q14
 try simp only [lm,xNA,xCA,xAN,xLC,xLN,xAC,xAL,nA,Nat.zero_add] at q14
 refine .guard fun q15=>?_
 replace q15 := okStr_ok q15
 try simp only [lm,xNA,xCA,xAN,xLC,xLN,xAC,xAL,nA,Nat.zero_add] at q15
 refine .bind fun y6 hy16=>.guard fun q17=>?_
 replace q17 := okStr_ok q17
 try simp only [lm,xNA,xCA,xAN,xLC,xLN,xAC,xAL,nA,Nat.zero_add] at q17
 refine .guard fun q18=>?_
 replace q18 := okStr_ok q18
 try simp only [lm,xNA,xCA,xAN,xLC,xLN,xAC,xAL,nA,Nat.zero_add] at q18
 refine .bind fun y7 hy19=>.guard fun q20=>?_
 replace q20 := okStr_ok q20
 try simp only [lm,xNA,xCA,xAN,xLC,xLN,xAC,xAL,nA,Nat.zero_add] at q20
 refine .guard fun q21=>?_
 replace q21 := okStr_ok q21
 try simp only [lm,xNA,xCA,xAN,xLC,xLN,xAC,xAL,nA,Nat.zero_add] at q21
 refine .bind fun y8 hy22=>.guard fun q23=>?_
 replace q23 := okStr_ok q23
 try simp only [lm,xNA,xCA,xAN,xLC,xLN,xAC,xAL,nA,Nat.zero_add] at q23
 refine .regionD [] (by kernel_rfl) fun e h=>?_
 simp only [seval,EMK,SB,fld_23_0,sz_3,ag_3]
 refine Spec.by (r27_digits_spec hy1) (by simp only [seval,FMK]) ?_
 simp only [seval,EMK,SB,q2,q3,fld_23_1,sz_3,ag_3]
 refine Spec.by (r27_KindName_spec hy4) (by simp only [seval,FMK]) ?_
 simp only [seval,EMK,SB,q5,q6,fld_23_2,sz_2,ag_2]
 refine Spec.by (r06_Millimetres_spec hy7) (by simp only [seval,FMK]) ?_
 simp only [seval,EMK,SB,q8,q9,fld_23_3,sz_2,ag_2]
 refine Spec.by (r06_Millimetres_spec hy10) (by simp only [seval,FMK]) ?_
 simp only [seval,EMK,SB,q11,q12,fld_23_4,sz_2,ag_2]
 refine Spec.by (r06_Millimetres_spec hy13) (by simp only [seval,FMK]) ?_
 simp only [seval,EMK,SB,q14,q15,fld_23_5,sz_2,ag_2]
 refine Spec.by (r06_Millimetres_spec hy16) (by simp only [seval,FMK]) ?_
 simp only [seval,EMK,SB,q17,q18,fld_23_6,sz_2,ag_2]
 refine Spec.by (r06_Millimetres_spec hy19) (by simp only [seval,FMK]) ?_
 simp only [seval,EMK,SB,q20,q21,fld_23_7,sz_2,ag_2]
 refine Spec.by (r06_Millimetres_spec hy22) (by simp only [seval,FMK]) ?_
 simp only [seval,EMK,SB,q23]
 refine mU e (.ret fun e h=>?_) h
 cases h
 simp only [seval,FMK,Tryz.results39]
def r27_Format (a0 : (List ApiTool)) : Option ((List UInt8) × Int) := bindO (r27_Magazine a0) fun (y1 : Int)=>if (y1 != 0) = true then some ([],y1) else bindO (guardO (okIdx a0) ( rangeX (fun (i1 : Nat) (e1 : ApiTool) (v1 : (List UInt8))=>bindO (r27_Line e1) fun (y2 : (List UInt8))=>guardO (okStr v1 y2) ( guardO (okStr (v1 ++ y2) [10]) ( some (.go ((v1 ++ y2) ++ [10]))))) (fun (v1 : (List UInt8))=>some v1) a0 0 [])) fun (v2 : (List UInt8))=>some (v2,0)
theorem r27_Format_spec {a0 : (List ApiTool)} {y : (List UInt8) × Int} (h : r27_Format a0 = some y) : Spec gP 19 [.d (.list (List.map encApiTool a0))] (.tuple [.d (.str y.1),.d (.int .i64 y.2)]) := by
 refine spec_mir Tryz.func19 rfl (by kernel_rfl) (by kernel_rfl) (fun y : (List UInt8) × Int=>.tuple [.d (.str y.1),.d (.int .i64 y.2)]) ?_ h
 unfold r27_Format
 simp only [List.replicate,List.length,nS,nA,Tryz.ntmps19,SV]
 refine .sR fun e h=>?_
 simp only [seval,EMK]
 refine mU e (.seqK (.seqK (.bind fun y1 hy1=>.region fun e h=>?_))) h
 simp only [seval,EMK]
 refine SpecS.by (r27_Magazine_spec hy1) (by simp only [seval,FMK]) ?_
 simp only [seval,EMK]
 refine mU e (.sR fun e h=>?_) h
 simp only [seval,EMK]
 refine mU e (.cond rfl (fun hb3=>?_) (fun hb3=>?_)) h
 refine .sR fun e h=>?_
 simp only [seval,EMK]
 refine mU e (.ret fun e h=>?_) h
 cases h
 simp only [seval,FMK,Tryz.results19]
 refine .skip (Mir.toK (.sR fun e h=>?_))
 simp only [seval,EMK]
 refine mU e (.seqK (.sR fun e h=>?_)) h
 simp only [seval,EMK]
 refine mU e (Mir.joinO (fun v2 : (List UInt8)=>([U,U,U,U,U,.d (.str v2)] ++ us 21)) (fun v2=>⟨[],[]⟩) (fun _=>rfl) ?_ ?_) h
 refine .block (.guard fun qg75=>Mir.range (fun (i1 : Nat) (v1 : (List UInt8))=>([.d (.list (List.map encApiTool a0)),U,U,U,U,.d (.str v1),.d (.int .i64 (i1 : Int))] ++ us 20)) (fun i1 v1=>⟨[],[]⟩) qg75 (fun _ _=>rfl) (by simp only [seval,FMK,zNI]) (by simp only [seval,FMK,zNI]) ?_ ?_)
 intro i1 e1 v1 qr73
 refine .seqK (.sR fun e h=>?_)
 simp only [seval,EMK,und_28,qr73]
 refine mU e (.condT rfl (.skip (Mir.toK (.seqK (.block (.bind fun y2 hy79=>.guard fun q80=>?_)))))) h
 replace q80 := okStr_ok q80
 refine .guard fun q81=>?_
 replace q81 := okStr_ok q81
 try simp only [lm,xNA,xCA,xAN,xLC,xLN,xAC,xAL,nA,Nat.zero_add] at q81
 refine .region fun e h=>?_
 simp only [seval,EMK,und_28,sz_23,qr73,Int.toNat_natCast,ag_23]
 refine SpecS.by (r27_Line_spec hy79) (by simp only [seval,FMK]) ?_
 simp only [seval,EMK,q80,q81]
 refine mU e (.region fun e h=>?_) h
 simp only [seval,EMK]
 cases h
 simp only [seval,FMK,Tryz.results19,qr73]
 intro v1 qd74
 refine .seqK (.sR fun e h=>?_)
 simp only [seval,EMK,und_28,qd74]
 refine mU e (.condF rfl (.exit fun e h=>?_)) h
 cases h
 simp only [seval,FMK,Tryz.results19]
 intro v2
 refine Mir.toK (.sR fun e h=>?_)
 simp only [seval,EMK]
 refine mU e (.ret fun e h=>?_) h
 cases h
 simp only [seval,FMK,Tryz.results19]
def r27_words (a0 : (List UInt8)) : Option (List (List UInt8)) := bindO (guardO (okIdx a0) ( rangeX (fun (i1 : Nat) (c1 : UInt8) (v1 : (Nat × List (List UInt8)))=>bindO (bindO (cutL a0 (i1 : Int) (IntKind.i64.wrap ((i1 : Int) + 1))) fun (s1 : (List UInt8))=>if (s1 == [32]) = true then guardO (okLen (v1.2.length + 1)) ( some (v1.1 + 1,v1.2 ++ [[]])) else bindO (gt v1.2 (IntKind.i64.wrap ((v1.2.length : Int) - 1))) fun (e1 : (List UInt8))=>guardO (okStr e1 s1) ( bindO (gt v1.2 (IntKind.i64.wrap ((v1.2.length : Int) - 1))) fun (e2 : (List UInt8))=>some (v1.1,v1.2.set (Int.toNat (IntKind.i64.wrap ((v1.2.length : Int) - 1))) (e1 ++ s1)))) fun (v2 : (Nat × List (List UInt8)))=>some (.go (v2.1,v2.2))) (fun (v1 : (Nat × List (List UInt8)))=>some (v1.1,v1.2)) a0 0 (0,[[]]))) fun (v3 : (Nat × List (List UInt8)))=>some v3.2
theorem r27_words_spec {a0 : (List UInt8)} {y : (List (List UInt8))} (h : r27_words a0 = some y) : Spec gP 52 [.d (.str a0)] (.d (.list (List.map eStr y))) := by
 refine spec_mir Tryz.func52 rfl (by kernel_rfl) (by kernel_rfl) (fun y : (List (List UInt8))=>.d (.list (List.map eStr y))) ?_ h
 unfold r27_words
 simp only [List.replicate,List.length,nS,nA,Tryz.ntmps52,SV]
 refine .sR fun e h=>?_
 simp only [seval,EMK,eStr,rmap_set,spD]
 refine mU e (.seqK (.regionW fun e h=>regW.alt 0 rfl ?_)) h
 simp only [seval,EMK,w_none,w_eq,eStr,rmap_set,spD]
 refine alt_litRow (es := List.map eStr [[]]) app_70 (by simp only [seval,EMK,und_70,sz_9,zero_9,(oL 1),eStr,rmap_set,spD]) (by decide) rfl (regW.of ?_)
 simp only [seval,EMK,w_none,w_eq,und_70,sz_9,zero_9,(oL 1),eStr,rmap_set,spD]
 refine mU e (.seqK (.sR fun e h=>?_)) h
 simp only [seval,EMK,eStr,rmap_set,spD]
 refine mU e (Mir.joinO (fun v3 : (Nat × List (List UInt8))=>([U,U,U,.gr 0 v3.1] ++ us 35)) (fun v3=>⟨[[.rowc 9 v3.1 (List.map eStr v3.2)]],[]⟩) (fun _=>rfl) ?_ ?_) h
 refine .block (.guard fun q1=>Mir.range (fun (i1 : Nat) (v1 : (Nat × List (List UInt8)))=>([.d (.str a0),U,U,.gr 0 v1.1,.d (.int .i64 (i1 : Int))] ++ us 34)) (fun i1 v1=>⟨[[.rowc 9 v1.1 (List.map eStr v1.2)]],[]⟩) q1 (fun _ _=>rfl) (by simp only [seval,FMK,eStr,rmap_set,spD,zNI]) (by simp only [seval,FMK,eStr,rmap_set,spD,zNI]) ?_ ?_)
 intro i1 c1 v1 q2
 refine .seqK (.sR fun e h=>?_)
 simp only [seval,EMK,und_9,q2,eStr,rmap_set,spD]
 refine mU e (.condT rfl (.skip (Mir.toK (.seqK (Mir.joinO (fun v2 : (Nat × List (List UInt8))=>([.d (.str a0),U,U,.gr 0 v2.1,.d (.int .i64 (i1 : Int))] ++ us 34)) (fun v2=>⟨[[.rowc 9 v2.1 (List.map eStr v2.2)]],[]⟩) (fun _=>rfl) ?_ ?_))))) h
 refine .block (.seqK (.bind fun s1 q3=>?_))
 replace q3 := cutL_ok q3
 simp only [Int.toNat_natCast] at q3
 refine .region fun e h=>?_
 simp only [seval,EMK,und_9,q3,Nat.le_refl,and_true,true_and,dm,tm,Int.toNat_natCast,eStr,rmap_set,spD]
 refine mU e (.cond rfl (fun h1=>?_) (fun h1=>?_)) h
 refine .guard fun q4=>.regionW fun e h=>regW.alt 2 rfl ?_
 simp only [seval,EMK,w_none,w_eq,und_70,sz_9,zero_9,(oL 1),eStr,rmap_set,spD]
 refine alt_appR (e' := 0) (ys := List.map eStr [[]]) rfl (by simp only [seval,EMK,eStr,rmap_set,spD]) rfl app_70 al_eStr (Nat.zero_lt_succ _) (ok2 q4 (by simp only [lm]) rfl) (regW.of ?_)
 simp only [seval,EMK,w_none,w_eq,app_70,al_eStr,eStr,rmap_set,spD]
 cases h
 simp only [seval,FMK,eStr,rmap_set,spD,Tryz.results52]
 refine .bind fun e1 q5=>?_
 replace q5 := gt_ok q5
 refine .guard fun q6=>?_
 replace q6 := okStr_ok q6
 refine .bind fun e2 q7=>?_
 replace q7 := gt_ok q7
 refine Mir.regionST 17 (by kernel_rfl) fun e h=>stW.alt 2 rfl (by kernel_rfl) ?_
 simp only [seval,EMK,w_none,w_eq,eStr,rmap_set,spD]
 refine st_lenR rfl rfl und_70 (stW.alt 3 rfl (by kernel_rfl) ?_)
 simp only [seval,EMK,w_none,w_eq,und_70,eStr,rmap_set,spD]
 refine st_lenR rfl rfl und_70 (stW.alt 1 rfl (by kernel_rfl) ?_)
 simp only [seval,EMK,w_none,w_eq,und_70,eStr,rmap_set,spD]
 refine st_indexR rfl rfl rfl und_70 sz_9 (row_lo q5.1) (row_hi q5.2 q5.1) (stW.alt 0 rfl (by kernel_rfl) ?_)
 simp only [seval,EMK,w_none,w_eq,und_70,sz_9,eStr,rmap_set,spD]
 refine st_loadR rfl rfl (row_at q5.2) (by simp only [↓reduceIte,nA,nL,pt_eq,ag_9,sz_9,dc_cons,dc_nil,SV,eStr] <;> rfl) (stW.alt 6 rfl (by kernel_rfl) ?_)
 simp only [seval,EMK,w_none,w_eq,ag_9,sz_9,und_9,q3,Nat.le_refl,and_true,true_and,dm,tm,Int.toNat_natCast,q6,eStr,rmap_set,spD]
 refine st_indexR rfl rfl rfl und_70 sz_9 (row_lo q7.1) (row_hi q7.2 q7.1) (stW.of (by kernel_rfl) ?_)
 simp only [seval,EMK,w_none,w_eq,und_70,sz_9,eStr,rmap_set,spD]
 refine regW.alt 0 rfl ?_
 simp only [seval,EMK,w_none,w_eq,eStr,rmap_set,spD]
 refine alt_storeR rfl rfl (row_at q7.2) rfl rfl sz_9 rfl (Nat.le_of_ble_eq_true rfl) (regW.of ?_)
 simp only [seval,EMK,w_none,w_eq,sz_9,eStr,rmap_set,spD]
 cases h
 simp only [seval,FMK,eStr,rmap_set,spD,Tryz.results52]
 intro v2
 refine Mir.toK (.region fun e h=>?_)
 simp only [seval,EMK,eStr,rmap_set,spD]
 cases h
 simp only [seval,FMK,eStr,rmap_set,spD,Tryz.results52,q2]
 intro v1 q8
 refine .seqK (.sR fun e h=>?_)
 simp only [seval,EMK,und_9,q8,eStr,rmap_set,spD]
 refine mU e (.condF rfl (.exit fun e h=>?_)) h
 cases h
 simp only [seval,FMK,eStr,rmap_set,spD,Tryz.results52]
 intro v3
 refine Mir.toK (.sR fun e h=>?_)
 simp only [seval,EMK,eStr,rmap_set,spD]
 refine mU e (.frz 0 rfl ?_) h
 simp only [seval,us_0,us_s,xCA,xNA,and_self,and_true,true_and,and_false,false_and,SZ]
 refine .ret fun e h=>?_
 cases h
 simp only [seval,FMK,eStr,rmap_set,spD,Tryz.results52]
def r27_number (a0 : (List UInt8)) : Option Int := bindX (guardO (okIdx a0) ( rangeX (fun (i1 : Nat) (c1 : UInt8) (v1 : Int)=>if ((decide ((a0.length : Int) > 4)) || ((decide ((c1.toNat : Int) < 48)) || (decide ((c1.toNat : Int) > 57)))) = true then some (.ret (.ret 0)) else some (.go (IntKind.i64.wrap ((IntKind.i64.wrap (10 * v1)) + (IntKind.i64.wrap (IntKind.u8.wrap ((c1.toNat : Int) - 48))))))) (fun (v1 : Int)=>some (.go v1)) a0 0 0)) fun (v2 : Int)=>some v2
theorem r27_number_spec {a0 : (List UInt8)} {y : Int} (h : r27_number a0 = some y) : Spec gP 53 [.d (.str a0)] (.d (.int .i64 y)) := by
 refine spec_mir Tryz.func53 rfl (by kernel_rfl) (by kernel_rfl) (fun y : Int=>.d (.int .i64 y)) ?_ h
 unfold r27_number
 simp only [List.replicate,List.length,nS,nA,Tryz.ntmps53,SV]
 refine .sR fun e h=>?_
 simp only [seval,EMK]
 refine mU e (.sR fun e h=>?_) h
 simp only [seval,EMK]
 refine mU e (.seqK (.sR fun e h=>?_)) h
 simp only [seval,EMK]
 refine mU e (Mir.join (fun v2 : Int=>([U,U,U,.d (.int .i64 v2)] ++ us 31)) (fun v2=>⟨[],[]⟩) (fun _=>rfl) ?_ ?_) h
 refine .block (.guard fun qg98=>Mir.range (fun (i1 : Nat) (v1 : Int)=>([.d (.str a0),U,U,.d (.int .i64 v1),.d (.int .i64 (i1 : Int))] ++ us 30)) (fun i1 v1=>⟨[],[]⟩) qg98 (fun _ _=>rfl) (by simp only [seval,FMK,zNI]) (by simp only [seval,FMK,zNI]) ?_ ?_)
 intro i1 c1 v1 qr96
 refine .seqK (.sR fun e h=>?_)
 simp only [seval,EMK,und_9,qr96]
 refine mU e (.condT rfl (.skip (Mir.toK (.seqK (.block (.seqK (.seqK (.joinV ([.d (.str a0),U,U,.d (.int .i64 v1),.d (.int .i64 (i1 : Int)),U,U,U,U,U,U,U,U,U,U,U,U,U,U,U,U,U,U,U,U,.d (.bool ((decide ((a0.length : Int) > 4)) || ((decide ((c1.toNat : Int) < 48)) || (decide ((c1.toNat : Int) > 57)))))] ++ us 9) ⟨[],[]⟩ rfl ?_ ?_)))))))) h
 refine SWs.region ?_
 rcases Bool.eq_false_or_eq_true (decide ((a0.length : Int) > 4)) with h1 | h1
 simp only [seval,EMK,SL,PB,und_9,h1]
 rcases Bool.eq_false_or_eq_true (decide ((c1.toNat : Int) < 48)) with h2 | h2
 simp only [seval,EMK,SL,PB,und_9,Int.toNat_natCast,qr96,h1,h2]
 simp only [seval,EMK,SL,PB,und_9,Int.toNat_natCast,qr96,h1,h2]
 refine Mir.toK (.cond rfl (fun h3=>?_) (fun h3=>?_))
 refine .sR fun e h=>?_
 simp only [seval,EMK]
 refine mU e (.ret fun e h=>?_) h
 cases h
 simp only [seval,FMK,Tryz.results53]
 refine .skip (Mir.toK (.region fun e h=>?_))
 simp only [seval,EMK,und_9,Int.toNat_natCast,qr96,und_5,und_3]
 refine mU e (.region fun e h=>?_) h
 simp only [seval,EMK]
 cases h
 simp only [seval,FMK,Tryz.results53,qr96]
 intro v1 qd97
 refine .seqK (.sR fun e h=>?_)
 simp only [seval,EMK,und_9,qd97]
 refine mU e (.condF rfl (.exit fun e h=>?_)) h
 cases h
 simp only [seval,FMK,Tryz.results53]
 intro v2
 refine Mir.toK (.sR fun e h=>?_)
 simp only [seval,EMK]
 refine mU e (.ret fun e h=>?_) h
 cases h
 simp only [seval,FMK,Tryz.results53]
def r27_read (a0 : (List UInt8)) : Option (ApiTool × Bool) := bindO (r27_words a0) fun (y1 : (List (List UInt8)))=>if ((y1.length : Int) != 15) = true then some (ApiTool.mk 0 0 0 0 0 0 0 0,false) else bindO (gt y1 1) fun (e1 : (List UInt8))=>bindO (r27_number e1) fun (y2 : Int)=>bindO (bindO (bindO (gt y1 2) fun (e2 : (List UInt8))=>bindO (r27_KindName 1) fun (y3 : (List UInt8))=>if (e2 == y3) = true then some 1 else some 0) fun (v1 : Int)=>bindO (bindO (gt y1 2) fun (e3 : (List UInt8))=>bindO (r27_KindName 2) fun (y4 : (List UInt8))=>if (e3 == y4) = true then some 2 else some v1) fun (v2 : Int)=>bindO (bindO (gt y1 2) fun (e4 : (List UInt8))=>bindO (r27_KindName 3) fun (y5 : (List UInt8))=>if (e4 == y5) = true then some 3 else some v2) fun (v3 : Int)=>bindO (bindO (gt y1 2) fun (e5 : (List UInt8))=>bindO (r27_KindName 4) fun (y6 : (List UInt8))=>if (e5 == y6) = true then some 4 else some v3) fun (v4 : Int)=>some v4) fun (v5 : Int)=>bindO (gt y1 4) fun (e6 : (List UInt8))=>bindO (r06_FromMillimetres e6) fun (y7 : Int × Int)=>bindO (gt y1 6) fun (e7 : (List UInt8))=>bindO (r06_FromMillimetres e7) fun (y8 : Int × Int)=>bindO (gt y1 8) fun (e8 : (List UInt8))=>bindO (r06_FromMillimetres e8) fun (y9 : Int × Int)=>bindO (gt y1 10) fun (e9 : (List UInt8))=>bindO (r06_FromMillimetres e9) fun (y10 : Int × Int)=>bindO (gt y1 12) fun (e10 : (List UInt8))=>bindO (r06_FromMillimetres e10) fun (y11 : Int × Int)=>bindO (gt y1 14) fun (e11 : (List UInt8))=>bindO (r06_FromMillimetres e11) fun (y12 : Int × Int)=>bindO (bindO (r27_Good (ApiTool.mk y2 v5 y7.1 y8.1 y9.1 y10.1 y11.1 y12.1)) fun (y13 : Bool)=>if y13 = true then bindO (r27_Line (ApiTool.mk y2 v5 y7.1 y8.1 y9.1 y10.1 y11.1 y12.1)) fun (y14 : (List UInt8))=>some (y14 == a0) else some false) fun (v6 : Bool)=>some (ApiTool.mk y2 v5 y7.1 y8.1 y9.1 y10.1 y11.1 y12.1,v6)
theorem r27_read_spec {a0 : (List UInt8)} {y : ApiTool × Bool} (h : r27_read a0 = some y) : Spec gP 35 [.d (.str a0)] (.tuple [.agg [.d (.int .i64 y.1.Number),.d (.int .i64 y.1.Kind),.d (.int .i64 y.1.Radius),.d (.int .i64 y.1.Flute),.d (.int .i64 y.1.Holder),.d (.int .i64 y.1.Step),.d (.int .i64 y.1.Feed),.d (.int .i64 y.1.Plunge)],.d (.bool y.2)]) := by
 refine spec_mir Tryz.func35 rfl (by kernel_rfl) (by kernel_rfl) (fun y : ApiTool × Bool=>.tuple [.agg [.d (.int .i64 y.1.Number),.d (.int .i64 y.1.Kind),.d (.int .i64 y.1.Radius),.d (.int .i64 y.1.Flute),.d (.int .i64 y.1.Holder),.d (.int .i64 y.1.Step),.d (.int .i64 y.1.Feed),.d (.int .i64 y.1.Plunge)],.d (.bool y.2)]) ?_ h
 unfold r27_read
 simp only [List.replicate,List.length,nS,nA,Tryz.ntmps35,SV]
 refine .sR fun e h=>?_
 simp only [seval,EMK,zero_23,eStr]
 refine mU e (.seqK (.bind fun y1 hy1=>.region fun e h=>?_)) h
 simp only [seval,EMK,eStr]
 refine SpecS.by (r27_words_spec hy1) (by simp only [seval,FMK,eStr]) ?_
 simp only [seval,EMK,eStr]
 refine mU e (.seqK (.sR fun e h=>?_)) h
 simp only [seval,EMK,und_70,eStr]
 refine mU e (.cond rfl (fun hb3=>?_) (fun hb3=>?_)) h
 refine .sR fun e h=>?_
 simp only [seval,EMK,zero_23,pl_23,sz_23]
 refine mU e (.ret fun e h=>?_) h
 cases h
 simp only [seval,FMK,Tryz.results35,ag_23,sz_23]
 refine .skip (Mir.toK (.seqK (.bind fun e1 q4=>?_)))
 replace q4 := gt_ok q4
 simp only [Int.reduceToNat,Int.reduceLT,Nat.sub_zero,dp0] at q4
 refine .bind fun y2 hy5=>.region fun e h=>?_
 simp only [seval,EMK,und_70,sz_9,q4,ag_9,eStr]
 refine SpecS.by (r27_number_spec hy5) (by simp only [seval,FMK,eStr]) ?_
 simp only [seval,EMK,zero_23,pl_23,sz_23,eStr]
 refine mU e (.seqK (.sR fun e h=>?_)) h
 simp only [seval,EMK,eStr]
 refine mU e (Mir.joinO (fun v5 : Int=>([.d (.str a0),U,.ptr 0 0,U,.d (.list (List.map eStr y1)),.ptr 1 0] ++ us 81)) (fun v5=>⟨[[.d (.int .i64 0),.d (.int .i64 0),.d (.int .i64 0),.d (.int .i64 0),.d (.int .i64 0),.d (.int .i64 0),.d (.int .i64 0),.d (.int .i64 0)],[.d (.int .i64 y2),.d (.int .i64 v5),.d (.int .i64 0),.d (.int .i64 0),.d (.int .i64 0),.d (.int .i64 0),.d (.int .i64 0),.d (.int .i64 0)]],[]⟩) (fun _=>rfl) ?_ ?_) h
 refine .block (.loopR 15 (.seqK (.sR fun e h=>?_)))
 simp only [seval,EMK,(nr rfl : (decide ((1 : Int) ≤ 4)) = true),eStr]
 refine mU e (.condT rfl (.skip (Mir.toK (.seqK (Mir.joinO (fun v1 : Int=>([.d (.str a0),U,.ptr 0 0,U,.d (.list (List.map eStr y1)),.ptr 1 0,.d (.int .i64 1)] ++ us 80)) (fun v1=>⟨[[.d (.int .i64 0),.d (.int .i64 0),.d (.int .i64 0),.d (.int .i64 0),.d (.int .i64 0),.d (.int .i64 0),.d (.int .i64 0),.d (.int .i64 0)],[.d (.int .i64 y2),.d (.int .i64 v1),.d (.int .i64 0),.d (.int .i64 0),.d (.int .i64 0),.d (.int .i64 0),.d (.int .i64 0),.d (.int .i64 0)]],[]⟩) (fun _=>rfl) ?_ ?_))))) h
 refine .block (.seqK (.bind fun e2 q33=>?_))
 replace q33 := gt_ok q33
 simp only [Int.reduceToNat,Int.reduceLT,Nat.sub_zero,dp0] at q33
 refine .bind fun y3 hy34=>.regionD [] (by kernel_rfl) fun e h=>?_
 simp only [seval,EMK,SB,und_70,sz_9,q33,ag_9,eStr]
 refine Spec.by (r27_KindName_spec hy34) (by simp only [seval,FMK,eStr]) ?_
 simp only [seval,EMK,SB,eStr]
 refine mU e (.cond rfl (fun hb35=>?_) (fun hb35=>?_)) h
 refine .region fun e h=>?_
 simp only [seval,EMK,fld_23_1,sz_3,eStr]
 cases h
 simp only [seval,FMK,eStr,Tryz.results35,ag_23,sz_23]
 refine .skip fun e h=>?_
 cases h
 simp only [seval,FMK,eStr,Tryz.results35,ag_23,sz_23]
 intro v1
 refine Mir.toK (.region fun e h=>?_)
 simp only [seval,EMK,(nr rfl : IntKind.i64.wrap 2 = 2),eStr]
 refine Mir.useN (e := e) ?_ h
 refine .seqK (.sR fun e h=>?_)
 simp only [seval,EMK,(nr rfl : (decide ((2 : Int) ≤ 4)) = true),eStr]
 refine mU e (.condT rfl (.skip (Mir.toK (.seqK (Mir.joinO (fun v2 : Int=>([.d (.str a0),U,.ptr 0 0,U,.d (.list (List.map eStr y1)),.ptr 1 0,.d (.int .i64 2)] ++ us 80)) (fun v2=>⟨[[.d (.int .i64 0),.d (.int .i64 0),.d (.int .i64 0),.d (.int .i64 0),.d (.int .i64 0),.d (.int .i64 0),.d (.int .i64 0),.d (.int .i64 0)],[.d (.int .i64 y2),.d (.int .i64 v2),.d (.int .i64 0),.d (.int .i64 0),.d (.int .i64 0),.d (.int .i64 0),.d (.int .i64 0),.d (.int .i64 0)]],[]⟩) (fun _=>rfl) ?_ ?_))))) h
 refine .block (.seqK (.bind fun e3 q39=>?_))
 replace q39 := gt_ok q39
 simp only [Int.reduceToNat,Int.reduceLT,Nat.sub_zero,dp0] at q39
 refine .bind fun y4 hy40=>.regionD [] (by kernel_rfl) fun e h=>?_
 simp only [seval,EMK,SB,und_70,sz_9,q39,ag_9,eStr]
 refine Spec.by (r27_KindName_spec hy40) (by simp only [seval,FMK,eStr]) ?_
 simp only [seval,EMK,SB,eStr]
 refine mU e (.cond rfl (fun hb41=>?_) (fun hb41=>?_)) h
 refine .region fun e h=>?_
 simp only [seval,EMK,fld_23_1,sz_3,eStr]
 cases h
 simp only [seval,FMK,eStr,Tryz.results35,ag_23,sz_23]
 refine .skip fun e h=>?_
 cases h
 simp only [seval,FMK,eStr,Tryz.results35,ag_23,sz_23]
 intro v2
 refine Mir.toK (.region fun e h=>?_)
 simp only [seval,EMK,(nr rfl : IntKind.i64.wrap 3 = 3),eStr]
 refine Mir.useN (e := e) ?_ h
 refine .seqK (.sR fun e h=>?_)
 simp only [seval,EMK,(nr rfl : (decide ((3 : Int) ≤ 4)) = true),eStr]
 refine mU e (.condT rfl (.skip (Mir.toK (.seqK (Mir.joinO (fun v3 : Int=>([.d (.str a0),U,.ptr 0 0,U,.d (.list (List.map eStr y1)),.ptr 1 0,.d (.int .i64 3)] ++ us 80)) (fun v3=>⟨[[.d (.int .i64 0),.d (.int .i64 0),.d (.int .i64 0),.d (.int .i64 0),.d (.int .i64 0),.d (.int .i64 0),.d (.int .i64 0),.d (.int .i64 0)],[.d (.int .i64 y2),.d (.int .i64 v3),.d (.int .i64 0),.d (.int .i64 0),.d (.int .i64 0),.d (.int .i64 0),.d (.int .i64 0),.d (.int .i64 0)]],[]⟩) (fun _=>rfl) ?_ ?_))))) h
 refine .block (.seqK (.bind fun e4 q45=>?_))
 replace q45 := gt_ok q45
 simp only [Int.reduceToNat,Int.reduceLT,Nat.sub_zero,dp0] at q45
 refine .bind fun y5 hy46=>.regionD [] (by kernel_rfl) fun e h=>?_
 simp only [seval,EMK,SB,und_70,sz_9,q45,ag_9,eStr]
 refine Spec.by (r27_KindName_spec hy46) (by simp only [seval,FMK,eStr]) ?_
 simp only [seval,EMK,SB,eStr]
 refine mU e (.cond rfl (fun hb47=>?_) (fun hb47=>?_)) h
 refine .region fun e h=>?_
 simp only [seval,EMK,fld_23_1,sz_3,eStr]
 cases h
 simp only [seval,FMK,eStr,Tryz.results35,ag_23,sz_23]
 refine .skip fun e h=>?_
 cases h
 simp only [seval,FMK,eStr,Tryz.results35,ag_23,sz_23]
 intro v3
 refine Mir.toK (.region fun e h=>?_)
 simp only [seval,EMK,(nr rfl : IntKind.i64.wrap 4 = 4),eStr]
 refine Mir.useN (e := e) ?_ h
 refine .seqK (.sR fun e h=>?_)
 simp only [seval,EMK,(nr rfl : (decide ((4 : Int) ≤ 4)) = true),eStr]
 refine mU e (.condT rfl (.skip (Mir.toK (.seqK (Mir.joinO (fun v4 : Int=>([.d (.str a0),U,.ptr 0 0,U,.d (.list (List.map eStr y1)),.ptr 1 0,.d (.int .i64 4)] ++ us 80)) (fun v4=>⟨[[.d (.int .i64 0),.d (.int .i64 0),.d (.int .i64 0),.d (.int .i64 0),.d (.int .i64 0),.d (.int .i64 0),.d (.int .i64 0),.d (.int .i64 0)],[.d (.int .i64 y2),.d (.int .i64 v4),.d (.int .i64 0),.d (.int .i64 0),.d (.int .i64 0),.d (.int .i64 0),.d (.int .i64 0),.d (.int .i64 0)]],[]⟩) (fun _=>rfl) ?_ ?_))))) h
 refine .block (.seqK (.bind fun e5 q51=>?_))
 replace q51 := gt_ok q51
 simp only [Int.reduceToNat,Int.reduceLT,Nat.sub_zero,dp0] at q51
 refine .bind fun y6 hy52=>.regionD [] (by kernel_rfl) fun e h=>?_
 simp only [seval,EMK,SB,und_70,sz_9,q51,ag_9,eStr]
 refine Spec.by (r27_KindName_spec hy52) (by simp only [seval,FMK,eStr]) ?_
 simp only [seval,EMK,SB,eStr]
 refine mU e (.cond rfl (fun hb53=>?_) (fun hb53=>?_)) h
 refine .region fun e h=>?_
 simp only [seval,EMK,fld_23_1,sz_3,eStr]
 cases h
 simp only [seval,FMK,eStr,Tryz.results35,ag_23,sz_23]
 refine .skip fun e h=>?_
 cases h
 simp only [seval,FMK,eStr,Tryz.results35,ag_23,sz_23]
 intro v4
 refine Mir.toK (.region fun e h=>?_)
 simp only [seval,EMK,(nr rfl : IntKind.i64.wrap 5 = 5),eStr]
 refine Mir.useN (e := e) ?_ h
 refine .seqK (.sR fun e h=>?_)
 simp only [seval,EMK,(nr rfl : (decide ((5 : Int) ≤ 4)) = false),eStr]
 refine mU e (.condF rfl (.exit fun e h=>?_)) h
 cases h
 simp only [seval,FMK,eStr,Tryz.results35,ag_23,sz_23]
 intro v5
 refine Mir.toK (.seqK (.bind fun e6 q54=>?_))
 replace q54 := gt_ok q54
 simp only [Int.reduceToNat,Int.reduceLT,Nat.sub_zero,dp0] at q54
 refine .bind fun y7 hy55=>.region fun e h=>?_
 simp only [seval,EMK,und_70,sz_9,q54,ag_9,eStr]
 refine SpecS.by (r06_FromMillimetres_spec hy55) (by simp only [seval,FMK,eStr]) ?_
 simp only [seval,EMK,fld_23_2,sz_2,eStr]
 refine mU e (.seqK (.bind fun e7 q56=>?_)) h
 replace q56 := gt_ok q56
 simp only [Int.reduceToNat,Int.reduceLT,Nat.sub_zero,dp0] at q56
 refine .bind fun y8 hy57=>.region fun e h=>?_
 simp only [seval,EMK,und_70,sz_9,q56,ag_9,eStr]
 refine SpecS.by (r06_FromMillimetres_spec hy57) (by simp only [seval,FMK,eStr]) ?_
 simp only [seval,EMK,fld_23_3,sz_2,eStr]
 refine mU e (.seqK (.bind fun e8 q58=>?_)) h
 replace q58 := gt_ok q58
 simp only [Int.reduceToNat,Int.reduceLT,Nat.sub_zero,dp0] at q58
 refine .bind fun y9 hy59=>.region fun e h=>?_
 simp only [seval,EMK,und_70,sz_9,q58,ag_9,eStr]
 refine SpecS.by (r06_FromMillimetres_spec hy59) (by simp only [seval,FMK,eStr]) ?_
 simp only [seval,EMK,fld_23_4,sz_2,eStr]
 refine mU e (.seqK (.bind fun e9 q60=>?_)) h
 replace q60 := gt_ok q60
 simp only [Int.reduceToNat,Int.reduceLT,Nat.sub_zero,dp0] at q60
 refine .bind fun y10 hy61=>.region fun e h=>?_
 simp only [seval,EMK,und_70,sz_9,q60,ag_9,eStr]
 refine SpecS.by (r06_FromMillimetres_spec hy61) (by simp only [seval,FMK,eStr]) ?_
 simp only [seval,EMK,fld_23_5,sz_2,eStr]
 refine mU e (.seqK (.bind fun e10 q62=>?_)) h
 replace q62 := gt_ok q62
 simp only [Int.reduceToNat,Int.reduceLT,Nat.sub_zero,dp0] at q62
 refine .bind fun y11 hy63=>.region fun e h=>?_
 simp only [seval,EMK,und_70,sz_9,q62,ag_9,eStr]
 refine SpecS.by (r06_FromMillimetres_spec hy63) (by simp only [seval,FMK,eStr]) ?_
 simp only [seval,EMK,fld_23_6,sz_2,eStr]
 refine mU e (.seqK (.bind fun e11 q64=>?_)) h
 replace q64 := gt_ok q64
 simp only [Int.reduceToNat,Int.reduceLT,Nat.sub_zero,dp0] at q64
 refine .bind fun y12 hy65=>.region fun e h=>?_
 simp only [seval,EMK,und_70,sz_9,q64,ag_9,eStr]
 refine SpecS.by (r06_FromMillimetres_spec hy65) (by simp only [seval,FMK,eStr]) ?_
 simp only [seval,EMK,fld_23_7,sz_2,eStr]
 refine mU e (.seqK (Mir.joinO (fun v6 : Bool=>([U,U,.ptr 0 0,.d (.bool v6)] ++ us 83)) (fun v6=>⟨[[.d (.int .i64 y2),.d (.int .i64 v5),.d (.int .i64 y7.1),.d (.int .i64 y8.1),.d (.int .i64 y9.1),.d (.int .i64 y10.1),.d (.int .i64 y11.1),.d (.int .i64 y12.1)],[.d (.int .i64 y2),.d (.int .i64 v5),.d (.int .i64 y7.1),.d (.int .i64 y8.1),.d (.int .i64 y9.1),.d (.int .i64 y10.1),.d (.int .i64 y11.1),.d (.int .i64 y12.1)]],[]⟩) (fun _=>rfl) ?_ ?_)) h
 refine .bind fun y13 hy66=>.ite (fun hb67=>?_) (fun hb67=>?_)
 refine .bind fun y14 hy68=>.regionD [] (by kernel_rfl) fun e h=>?_
 simp only [seval,EMK,SB,ag_23,sz_23,eStr,hb67]
 refine Spec.by (r27_Good_spec hy66) (by simp only [seval,FMK,eStr,hb67]) ?_
 simp only [seval,EMK,SB,ag_23,sz_23,eStr,hb67]
 refine Spec.by (r27_Line_spec hy68) (by simp only [seval,FMK,eStr,hb67]) ?_
 simp only [seval,EMK,SB,sz_23,eStr,hb67]
 cases h
 simp only [seval,FMK,eStr,hb67]
 refine .regionD [] (by kernel_rfl) fun e h=>?_
 simp only [seval,EMK,SB,ag_23,sz_23,eStr,hb67]
 refine Spec.by (r27_Good_spec hy66) (by simp only [seval,FMK,eStr,hb67]) ?_
 simp only [seval,EMK,SB,sz_23,eStr,hb67]
 cases h
 simp only [seval,FMK,eStr,hb67]
 intro v6
 refine Mir.toK (.ret fun e h=>?_)
 cases h
 simp only [seval,FMK,eStr,Tryz.results35,ag_23,sz_23]
def r27_Parse (a0 : (List UInt8)) : Option ((List ApiTool) × Int × Int) := bindX (guardO (okIdx a0) ( rangeX (fun (i1 : Nat) (c1 : UInt8) (v1 : (List ApiTool) × (List UInt8))=>bindX (if ((v1.1.length : Int) == 200) = true then some (.ret (.ret (.ret ([],201,3)))) else if ((c1.toNat : Int) != 10) = true then bindO (cutL a0 (i1 : Int) (IntKind.i64.wrap ((i1 : Int) + 1))) fun (s1 : (List UInt8))=>guardO (okStr v1.2 s1) ( some (.go (v1.1,v1.2 ++ s1))) else bindO (r27_read v1.2) fun (y1 : ApiTool × Bool)=>if (!y1.2) = true then some (.ret (.ret (.ret ([],IntKind.i64.wrap ((v1.1.length : Int) + 1),2)))) else bindO (r27_Find v1.1 y1.1.Number) fun (y2 : Int × Int)=>if (y2.2 == 0) = true then some (.ret (.ret (.ret ([],IntKind.i64.wrap ((v1.1.length : Int) + 1),5)))) else guardO (okLen (v1.1.length + 1)) ( some (.go (v1.1 ++ [y1.1],[])))) fun (v2 : (List ApiTool) × (List UInt8))=>some (.go (v2.1,v2.2))) (fun (v1 : (List ApiTool) × (List UInt8))=>some (.go (v1.1,v1.2))) a0 0 ([],[]))) fun (v3 : (List ApiTool) × (List UInt8))=>if (!(v3.2 == [])) = true then some ([],IntKind.i64.wrap ((v3.1.length : Int) + 1),2) else some (v3.1,0,0)
theorem r27_Parse_spec {a0 : (List UInt8)} {y : (List ApiTool) × Int × Int} (h : r27_Parse a0 = some y) : Spec gP 14 [.d (.str a0)] (.tuple [.d (.list (List.map encApiTool y.1)),.d (.int .i64 y.2.1),.d (.int .i64 y.2.2)]) := by
 refine spec_mir Tryz.func14 rfl (by kernel_rfl) (by kernel_rfl) (fun y : (List ApiTool) × Int × Int=>.tuple [.d (.list (List.map encApiTool y.1)),.d (.int .i64 y.2.1),.d (.int .i64 y.2.2)]) ?_ h
 unfold r27_Parse
 simp only [List.replicate,List.length,nS,nA,Tryz.ntmps14,SV]
 refine .sR fun e h=>?_
 simp only [seval,EMK]
 refine mU e (.sR fun e h=>?_) h
 simp only [seval,EMK]
 refine mU e (.sR fun e h=>?_) h
 simp only [seval,EMK]
 refine mU e (.seqK (.sR fun e h=>?_)) h
 simp only [seval,EMK]
 refine mU e (.gh [.slot 5 23] rfl (Mir.join (fun v3 : (List ApiTool) × (List UInt8)=>([U,U,U,U,U,.own 0 (List.map encApiTool v3.1),.d (.str v3.2)] ++ us 57)) (fun v3=>⟨[],[(23,v3.1.length)]⟩) (fun _=>rfl) ?_ ?_)) h
 refine .block (.guard fun q1=>Mir.range (fun (i1 : Nat) (v1 : (List ApiTool) × (List UInt8))=>([.d (.str a0),U,U,U,U,.own 0 (List.map encApiTool v1.1),.d (.str v1.2),.d (.int .i64 (i1 : Int))] ++ us 56)) (fun i1 v1=>⟨[],[(23,v1.1.length)]⟩) q1 (fun _ _=>rfl) (by simp only [seval,FMK,zNI]) (by simp only [seval,FMK,zNI]) ?_ ?_)
 intro i1 c1 v1 q2
 refine .seqK (.sR fun e h=>?_)
 simp only [seval,EMK,und_9,q2]
 refine mU e (.condT rfl (.skip (Mir.toK (.seqK (Mir.join (fun v2 : (List ApiTool) × (List UInt8)=>([.d (.str a0),U,U,U,U,.own 0 (List.map encApiTool v2.1),.d (.str v2.2),.d (.int .i64 (i1 : Int))] ++ us 56)) (fun v2=>⟨[],[(23,v2.1.length)]⟩) (fun _=>rfl) ?_ ?_))))) h
 refine .block (.seqK (.sR fun e h=>?_))
 simp only [seval,EMK,und_28]
 refine mU e (.cond rfl (fun h1=>?_) (fun h1=>?_)) h
 refine .sR fun e h=>?_
 simp only [seval,EMK]
 refine mU e (.ret fun e h=>?_) h
 cases h
 simp only [seval,FMK,Tryz.results14]
 refine .skip (Mir.toK (.seqK (.sR fun e h=>?_)))
 simp only [seval,EMK,und_9,Int.toNat_natCast,q2]
 refine mU e (.cond rfl (fun h2=>?_) (fun h2=>?_)) h
 refine .seqK (.bind fun s1 q3=>?_)
 replace q3 := cutL_ok q3
 simp only [Int.toNat_natCast] at q3
 refine .guard fun q4=>?_
 replace q4 := okStr_ok q4
 refine .region fun e h=>?_
 simp only [seval,EMK,und_9,q3,Nat.le_refl,and_true,true_and,dm,tm,Int.toNat_natCast,q4]
 refine mU e (.exit fun e h=>?_) h
 cases h
 simp only [seval,FMK,Tryz.results14]
 refine .skip (Mir.toK (.seqK (.bind fun y1 h3=>.region fun e h=>?_)))
 simp only [seval,EMK]
 refine SpecS.by (r27_read_spec h3) (by simp only [seval,FMK]) ?_
 simp only [seval,EMK,zero_23,sz_23]
 refine mU e (.seqK (.sR fun e h=>?_)) h
 simp only [seval,EMK]
 refine mU e (.cond rfl (fun h4=>?_) (fun h4=>?_)) h
 refine .sR fun e h=>?_
 simp only [seval,EMK,und_28]
 refine mU e (.ret fun e h=>?_) h
 cases h
 simp only [seval,FMK,Tryz.results14]
 refine .skip (Mir.toK (.seqK (.seqK (.bind fun y2 h5=>.region fun e h=>?_))))
 simp only [seval,EMK,fld_23_0,sz_3,ag_3]
 refine SpecS.by (r27_Find_spec h5) (by simp only [seval,FMK]) ?_
 simp only [seval,EMK]
 refine mU e (.sR fun e h=>?_) h
 simp only [seval,EMK]
 refine mU e (.cond rfl (fun h6=>?_) (fun h6=>?_)) h
 refine .sR fun e h=>?_
 simp only [seval,EMK,und_28]
 refine mU e (.ret fun e h=>?_) h
 cases h
 simp only [seval,FMK,Tryz.results14]
 refine .skip (Mir.toK (.guard fun q5=>.region fun e h=>?_))
 simp only [seval,EMK,ag_23,sz_23,und_28,zero_23,(oL 8),app_28,al_ApiTool,q5]
 cases h
 simp only [seval,FMK,Tryz.results14]
 intro v2
 refine Mir.toK (.region fun e h=>?_)
 simp only [seval,EMK]
 cases h
 simp only [seval,FMK,Tryz.results14,q2]
 intro v1 q6
 refine .seqK (.sR fun e h=>?_)
 simp only [seval,EMK,und_9,q6]
 refine mU e (.condF rfl (.exit fun e h=>?_)) h
 cases h
 simp only [seval,FMK,Tryz.results14]
 intro v3
 refine Mir.toK (.seqK (.sR fun e h=>?_))
 simp only [seval,EMK]
 refine mU e (.cond rfl (fun h7=>?_) (fun h7=>?_)) h
 refine .sR fun e h=>?_
 simp only [seval,EMK,und_28]
 refine mU e (.ret fun e h=>?_) h
 cases h
 simp only [seval,FMK,Tryz.results14]
 refine .skip (Mir.toK (.sR fun e h=>?_))
 simp only [seval,EMK]
 refine mU e (.ret fun e h=>?_) h
 cases h
 simp only [seval,FMK,Tryz.results14]
end Go.Proofs.YthljcnchaopncaaGreatDoor
