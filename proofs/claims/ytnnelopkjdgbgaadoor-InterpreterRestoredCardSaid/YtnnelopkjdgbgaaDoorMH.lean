import Derived.Test.YtnnelopkjdgbgaaDoorGx
import Derived.Test.YtnnelopkjdgbgaaDoorTy
import Derived.Test.YtnnelopkjdgbgaaDoorMB
namespace Go.Proofs.YtnnelopkjdgbgaaDoor
open Go.RowKit
open Nat renaming reduceAdd → nA,reduceSub → nS,reduceMul → nM,reduceEqDiff → nE,reduceLeDiff → nL,reduceLT → nT,reduceBEq → nB
open Int renaming reduceLT → iT,reduceToNat → iN,reduceEq → iE
set_option linter.unusedVariables false
set_option linter.unusedSimpArgs false
set_option maxRecDepth 100000
set_option maxHeartbeats 8000000
structure L47Setting where
 Table : R45Table
 From : ApiPos
 deriving DecidableEq
def encL47Setting (x : L47Setting) : List D := [.int .i64 x.Table.Work.e0.X,.int .i64 x.Table.Work.e0.Y,.int .i64 x.Table.Work.e0.Z,.int .i64 x.Table.Work.e1.X,.int .i64 x.Table.Work.e1.Y,.int .i64 x.Table.Work.e1.Z,.int .i64 x.Table.Work.e2.X,.int .i64 x.Table.Work.e2.Y,.int .i64 x.Table.Work.e2.Z,.int .i64 x.Table.Work.e3.X,.int .i64 x.Table.Work.e3.Y,.int .i64 x.Table.Work.e3.Z,.int .i64 x.Table.Work.e4.X,.int .i64 x.Table.Work.e4.Y,.int .i64 x.Table.Work.e4.Z,.int .i64 x.Table.Work.e5.X,.int .i64 x.Table.Work.e5.Y,.int .i64 x.Table.Work.e5.Z,.list (List.map encR45Length x.Table.Lengths),.int .i64 x.From.X,.int .i64 x.From.Y,.int .i64 x.From.Z]
theorem ENMH : type_of% (@encL47Setting.eq_1) := @encL47Setting.eq_1
theorem EMH : type_of% (And.intro @SE <| And.intro @ENMH <| @ENMB) := And.intro @SE <| And.intro @ENMH <| @ENMB
theorem FMH : type_of% (And.intro @SF <| And.intro @ENMH <| @ENMB) := And.intro @SF <| And.intro @ENMH <| @ENMB
def r41_Few (a0 : (List ApiBlock)) (a1 : Int) : Option Bool := if (decide ((a0.length : Int) > a1)) = true then some false else bindX (guardO (okIdx a0) ( rangeX (fun (i1 : Nat) (e1 : ApiBlock) (v1 : Unit)=>if ((decide ((e1.Words.length : Int) > 20)) || (decide ((e1.Comment.length : Int) > 120))) = true then some (.ret (.ret false)) else some (.go ())) (fun (v1 : Unit)=>some (.go ())) a0 0 ())) fun (v2 : Unit)=>some true
theorem r41_Few_spec {a0 : (List ApiBlock)} {a1 : Int} {y : Bool} (h : r41_Few a0 a1 = some y) : Spec gP 25 [.d (.list (List.map encApiBlock a0)),.d (.int .i64 a1)] (.d (.bool y)) := by
 refine spec_mir Tryd.func25 rfl (by kernel_rfl) (by kernel_rfl) (fun y : Bool=>.d (.bool y)) ?_ h
 unfold r41_Few
 simp only [List.replicate,List.length,nS,nA,Tryd.ntmps25,SV]
 refine .sR fun e h=>?_
 simp only [seval,EMH]
 refine mU e (.seqK (.sR fun e h=>?_)) h
 simp only [seval,EMH,und_22]
 refine mU e (.cond rfl (fun hb2=>?_) (fun hb2=>?_)) h
 refine .sR fun e h=>?_
 simp only [seval,EMH]
 refine mU e (.ret fun e h=>?_) h
 cases h
 simp only [seval,FMH,Tryd.results25]
 refine .skip (Mir.toK (.seqK (.sR fun e h=>?_)))
 simp only [seval,EMH]
 refine mU e (Mir.join (fun v2 : Unit=>(us 32)) (fun v2=>⟨[],[]⟩) (fun _=>rfl) ?_ ?_) h
 refine .block (.guard fun qg67=>Mir.range (fun (i1 : Nat) (v1 : Unit)=>([.d (.list (List.map encApiBlock a0)),U,U,U,U,.d (.int .i64 (i1 : Int))] ++ us 26)) (fun i1 v1=>⟨[],[]⟩) qg67 (fun _ _=>rfl) (by simp only [seval,FMH,zNI]) (by simp only [seval,FMH,zNI]) ?_ ?_)
 intro i1 e1 v1 qr65
 refine .seqK (.sR fun e h=>?_)
 simp only [seval,EMH,und_22,qr65]
 refine mU e (.condT rfl (.skip (Mir.toK (.seqK (.block (.seqK (.joinV [.d (.list (List.map encApiBlock a0)),U,U,U,U,.d (.int .i64 (i1 : Int)),U,U,U,U,U,U,U,U,U,U,U,U,U,U,U,U,U,U,U,U,U,U,U,U,U,.d (.bool ((decide ((e1.Words.length : Int) > 20)) || (decide ((e1.Comment.length : Int) > 120))))] ⟨[],[]⟩ rfl ?_ ?_))))))) h
 refine SWs.region ?_
 rcases Bool.eq_false_or_eq_true (decide ((e1.Words.length : Int) > 20)) with hb70 | hb70
 simp only [seval,EMH,SL,PB,und_22,sz_41,qr65,Int.toNat_natCast,fld_41_1,sz_39,ag_39,und_39,hb70]
 simp only [seval,EMH,SL,PB,und_22,sz_41,qr65,Int.toNat_natCast,fld_41_1,sz_39,ag_39,und_39,fld_41_2,sz_9,ag_9,und_9,hb70]
 refine Mir.toK (.cond rfl (fun hb72=>?_) (fun hb72=>?_))
 refine .sR fun e h=>?_
 simp only [seval,EMH]
 refine mU e (.ret fun e h=>?_) h
 cases h
 simp only [seval,FMH,Tryd.results25]
 refine .skip (Mir.toB (Mir.toK (.region fun e h=>?_)))
 simp only [seval,EMH]
 cases h
 simp only [seval,FMH,Tryd.results25,qr65]
 intro v1 qd66
 refine .seqK (.sR fun e h=>?_)
 simp only [seval,EMH,und_22,qd66]
 refine mU e (.condF rfl (.exit fun e h=>?_)) h
 cases h
 simp only [seval,FMH,Tryd.results25]
 intro v2
 refine Mir.toK (.sR fun e h=>?_)
 simp only [seval,EMH]
 refine mU e (.ret fun e h=>?_) h
 cases h
 simp only [seval,FMH,Tryd.results25]
def r47_Few (a0 : (List ApiBlock)) (a1 : Int) : Option Bool := bindO (r41_Few a0 a1) fun (y1 : Bool)=>if (!y1) = true then some false else bindX (guardO (okIdx a0) ( rangeX (fun (i1 : Nat) (e1 : ApiBlock) (v1 : Unit)=>bindX (loopX (fun (v2 : Int)=>if (decide (v2 < (e1.Words.length : Int))) = true then bindO (gt e1.Words v2) fun (e2 : ApiWord)=>if (if (e2.Letter == 73) = true then (decide (e2.Value > 50000)) || (decide (e2.Value < (-50000))) else (e2.Letter == 74) && ((decide (e2.Value > 50000)) || (decide (e2.Value < (-50000))))) = true then some (.ret (.ret (.ret (.ret false)))) else some (.go (IntKind.i64.wrap (v2 + 1))) else some (.ret (.go ()))) fuel 0) fun (v3 : Unit)=>some (.go ())) (fun (v1 : Unit)=>some (.go ())) a0 0 ())) fun (v4 : Unit)=>some true
theorem r47_Few_spec {a0 : (List ApiBlock)} {a1 : Int} {y : Bool} (h : r47_Few a0 a1 = some y) : Spec gP 14 [.d (.list (List.map encApiBlock a0)),.d (.int .i64 a1)] (.d (.bool y)) := by
 refine spec_mir Tryd.func14 rfl (by kernel_rfl) (by kernel_rfl) (fun y : Bool=>.d (.bool y)) ?_ h
 unfold r47_Few
 simp only [List.replicate,List.length,nS,nA,Tryd.ntmps14,SV]
 refine .sR fun e h=>?_
 simp only [seval,EMH]
 refine mU e (.seqK (.seqK (.bind fun y1 hy1=>.region fun e h=>?_))) h
 simp only [seval,EMH]
 refine SpecS.by (r41_Few_spec hy1) (by simp only [seval,FMH]) ?_
 simp only [seval,EMH]
 refine mU e (.cond rfl (fun hb3=>?_) (fun hb3=>?_)) h
 refine .sR fun e h=>?_
 simp only [seval,EMH]
 refine mU e (.ret fun e h=>?_) h
 cases h
 simp only [seval,FMH,Tryd.results14]
 refine .skip (Mir.toK (.seqK (.sR fun e h=>?_)))
 simp only [seval,EMH]
 refine mU e (Mir.join (fun v4 : Unit=>(us 54)) (fun v4=>⟨[],[]⟩) (fun _=>rfl) ?_ ?_) h
 refine .block (.guard fun q1=>Mir.range (fun (i1 : Nat) (v1 : Unit)=>([.d (.list (List.map encApiBlock a0)),U,U,U,U,.d (.int .i64 (i1 : Int))] ++ us 48)) (fun i1 v1=>⟨[],[]⟩) q1 (fun _ _=>rfl) (by simp only [seval,FMH,zNI]) (by simp only [seval,FMH,zNI]) ?_ ?_)
 intro i1 e1 v1 q2
 refine .seqK (.sR fun e h=>?_)
 simp only [seval,EMH,und_22,q2]
 refine mU e (.condT rfl (.skip (Mir.toK (.seqK (Mir.join (fun v3 : Unit=>([.d (.list (List.map encApiBlock a0)),U,U,U,U,.d (.int .i64 (i1 : Int))] ++ us 48)) (fun v3=>⟨[],[]⟩) (fun _=>rfl) ?_ ?_))))) h
 refine .block (.sR fun e h=>?_)
 simp only [seval,EMH]
 refine mU e (.block (Mir.loop (fun v2 : Int=>([.d (.list (List.map encApiBlock a0)),U,U,U,U,.d (.int .i64 (i1 : Int)),.d (.int .i64 v2)] ++ us 47)) (fun v2=>⟨[],[]⟩) (fun _=>rfl) (by simp only [seval,FMH]) (by simp only [seval,FMH]) fun v2=>.seqK (.sR fun e h=>?_))) h
 simp only [seval,EMH,und_22,sz_41,q2,Int.toNat_natCast,fld_41_1,sz_39,ag_39,und_39]
 refine mU e (.cond rfl (fun h1=>?_) (fun h1=>?_)) h
 refine .skip (Mir.toK (.seqK (.block (.seqK (.bind fun e2 q3=>?_)))))
 replace q3 := gt_ok q3
 refine .region fun e h=>?_
 simp only [seval,EMH,und_22,sz_41,q2,Int.toNat_natCast,fld_41_1,sz_39,ag_39,und_39,sz_77,q3,ag_77,zero_77]
 refine mU e (.seqK (.joinV [.d (.list (List.map encApiBlock a0)),U,U,U,U,.d (.int .i64 (i1 : Int)),.d (.int .i64 v2),U,U,U,U,U,U,U,U,U,U,U,U,U,U,U,U,U,U,U,U,U,U,U,U,U,U,U,U,U,U,U,U,U,U,U,U,U,U,U,U,U,U,U,U,U,U,.d (.bool (if (e2.Letter == 73) = true then (decide (e2.Value > 50000)) || (decide (e2.Value < (-50000))) else (e2.Letter == 74) && ((decide (e2.Value > 50000)) || (decide (e2.Value < (-50000))))))] ⟨[[.d (.int .u8 e2.Letter),.d (.int .i64 e2.Value)]],[]⟩ rfl ?_ ?_)) h
 refine SWs.region ?_
 rcases Bool.eq_false_or_eq_true (e2.Letter == 73) with h2 | h2
 rcases Bool.eq_false_or_eq_true (decide (e2.Value > 50000)) with h3 | h3
 simp only [seval,EMH,SL,PB,fld_77_0,sz_5,ag_5,fld_77_1,sz_2,ag_2,h2,h3]
 simp only [seval,EMH,SL,PB,fld_77_0,sz_5,ag_5,fld_77_1,sz_2,ag_2,h2,h3]
 rcases Bool.eq_false_or_eq_true (e2.Letter == 74) with h4 | h4
 rcases Bool.eq_false_or_eq_true (decide (e2.Value > 50000)) with h5 | h5
 simp only [seval,EMH,SL,PB,fld_77_0,sz_5,ag_5,fld_77_1,sz_2,ag_2,h2,h4,h5]
 simp only [seval,EMH,SL,PB,fld_77_0,sz_5,ag_5,fld_77_1,sz_2,ag_2,h2,h4,h5]
 simp only [seval,EMH,SL,PB,fld_77_0,sz_5,ag_5,h2,h4]
 refine Mir.toK (.cond rfl (fun h6=>?_) (fun h6=>?_))
 refine .sR fun e h=>?_
 simp only [seval,EMH]
 refine mU e (.ret fun e h=>?_) h
 cases h
 simp only [seval,FMH,Tryd.results14]
 refine .skip (Mir.toB (Mir.toK (.region fun e h=>?_)))
 simp only [seval,EMH]
 cases h
 simp only [seval,FMH,Tryd.results14]
 refine .exit fun e h=>?_
 cases h
 simp only [seval,FMH,Tryd.results14]
 intro v3
 refine Mir.toK (.region fun e h=>?_)
 simp only [seval,EMH]
 cases h
 simp only [seval,FMH,Tryd.results14,q2]
 intro v1 q4
 refine .seqK (.sR fun e h=>?_)
 simp only [seval,EMH,und_22,q4]
 refine mU e (.condF rfl (.exit fun e h=>?_)) h
 cases h
 simp only [seval,FMH,Tryd.results14]
 intro v4
 refine Mir.toK (.sR fun e h=>?_)
 simp only [seval,EMH]
 refine mU e (.ret fun e h=>?_) h
 cases h
 simp only [seval,FMH,Tryd.results14]
def l47_few (a0 : (List ApiBlock)) (a1 : L47Setting) : Option Bool := bindO (bindO (r47_Few a0 40) fun (y1 : Bool)=>if y1 = true then some (decide ((a1.Table.Lengths.length : Int) ≤ 20)) else some false) fun (v1 : Bool)=>some v1
theorem l47_few_spec {a0 : (List ApiBlock)} {a1 : L47Setting} {y : Bool} (h : l47_few a0 a1 = some y) : Spec gP 5 [.d (.list (List.map encApiBlock a0)),.agg [.d (.int .i64 a1.Table.Work.e0.X),.d (.int .i64 a1.Table.Work.e0.Y),.d (.int .i64 a1.Table.Work.e0.Z),.d (.int .i64 a1.Table.Work.e1.X),.d (.int .i64 a1.Table.Work.e1.Y),.d (.int .i64 a1.Table.Work.e1.Z),.d (.int .i64 a1.Table.Work.e2.X),.d (.int .i64 a1.Table.Work.e2.Y),.d (.int .i64 a1.Table.Work.e2.Z),.d (.int .i64 a1.Table.Work.e3.X),.d (.int .i64 a1.Table.Work.e3.Y),.d (.int .i64 a1.Table.Work.e3.Z),.d (.int .i64 a1.Table.Work.e4.X),.d (.int .i64 a1.Table.Work.e4.Y),.d (.int .i64 a1.Table.Work.e4.Z),.d (.int .i64 a1.Table.Work.e5.X),.d (.int .i64 a1.Table.Work.e5.Y),.d (.int .i64 a1.Table.Work.e5.Z),.d (.list (List.map encR45Length a1.Table.Lengths)),.d (.int .i64 a1.From.X),.d (.int .i64 a1.From.Y),.d (.int .i64 a1.From.Z)]] (.d (.bool y)) := by
 refine spec_mir Tryd.func5 rfl (by kernel_rfl) (by kernel_rfl) (fun y : Bool=>.d (.bool y)) ?_ h
 unfold l47_few
 simp only [List.replicate,List.length,nS,nA,Tryd.ntmps5,SV]
 refine .sR fun e h=>?_
 simp only [seval,EMH]
 refine mU e (.seqK (Mir.joinO (fun v1 : Bool=>([U,U,U,U,.d (.bool v1)] ++ us 9)) (fun v1=>⟨[[.d (.int .i64 a1.Table.Work.e0.X),.d (.int .i64 a1.Table.Work.e0.Y),.d (.int .i64 a1.Table.Work.e0.Z),.d (.int .i64 a1.Table.Work.e1.X),.d (.int .i64 a1.Table.Work.e1.Y),.d (.int .i64 a1.Table.Work.e1.Z),.d (.int .i64 a1.Table.Work.e2.X),.d (.int .i64 a1.Table.Work.e2.Y),.d (.int .i64 a1.Table.Work.e2.Z),.d (.int .i64 a1.Table.Work.e3.X),.d (.int .i64 a1.Table.Work.e3.Y),.d (.int .i64 a1.Table.Work.e3.Z),.d (.int .i64 a1.Table.Work.e4.X),.d (.int .i64 a1.Table.Work.e4.Y),.d (.int .i64 a1.Table.Work.e4.Z),.d (.int .i64 a1.Table.Work.e5.X),.d (.int .i64 a1.Table.Work.e5.Y),.d (.int .i64 a1.Table.Work.e5.Z),.d (.list (List.map encR45Length a1.Table.Lengths)),.d (.int .i64 a1.From.X),.d (.int .i64 a1.From.Y),.d (.int .i64 a1.From.Z)]],[]⟩) (fun _=>rfl) ?_ ?_)) h
 refine .bind fun y1 hy1=>.ite (fun hb2=>?_) (fun hb2=>?_)
 refine .region fun e h=>?_
 simp only [seval,EMH,hb2]
 refine SpecS.by (r47_Few_spec hy1) (by simp only [seval,FMH,hb2]) ?_
 simp only [seval,EMH,fld_30_0,sz_28,fld_28_1,sz_26,ag_26,und_26,hb2]
 cases h
 simp only [seval,FMH,hb2]
 refine .region fun e h=>?_
 simp only [seval,EMH,hb2]
 refine SpecS.by (r47_Few_spec hy1) (by simp only [seval,FMH,hb2]) ?_
 simp only [seval,EMH,hb2]
 cases h
 simp only [seval,FMH,hb2]
 intro v1
 refine Mir.toK (.ret fun e h=>?_)
 cases h
 simp only [seval,FMH,Tryd.results5]
end Go.Proofs.YtnnelopkjdgbgaaDoor
