import Derived.Test.YtjgngikiglhleaaGreatDoorGx
import Derived.Test.YtjgngikiglhleaaGreatDoorTy
import Derived.Test.YtjgngikiglhleaaGreatDoorMB
namespace Go.Proofs.YtjgngikiglhleaaGreatDoor
open Go.RowKit
open Nat renaming reduceAdd → nA,reduceSub → nS,reduceMul → nM,reduceEqDiff → nE,reduceLeDiff → nL,reduceLT → nT,reduceBEq → nB
open Int renaming reduceLT → iT,reduceToNat → iN,reduceEq → iE
set_option linter.unusedVariables false
set_option linter.unusedSimpArgs false
set_option maxRecDepth 100000
set_option maxHeartbeats 8000000
theorem EMV : type_of% (And.intro @SE <| @ENMB) := And.intro @SE <| @ENMB
theorem FMV : type_of% (And.intro @SF <| @ENMB) := And.intro @SF <| @ENMB
def r46_Few (a0 : (List ApiStage)) (a1 : Int) : Option Bool := if (decide ((a0.length : Int) > 4)) = true then some false else bindX (guardO (okIdx a0) ( rangeX (fun (i1 : Nat) (e1 : ApiStage) (v1 : Unit)=>if (decide ((e1.Moves.length : Int) > a1)) = true then some (.ret (.ret false)) else some (.go ())) (fun (v1 : Unit)=>some (.go ())) a0 0 ())) fun (v2 : Unit)=>some true
theorem r46_Few_spec {a0 : (List ApiStage)} {a1 : Int} {y : Bool} (h : r46_Few a0 a1 = some y) : Spec gP 5 [.d (.list (List.map encApiStage a0)),.d (.int .i64 a1)] (.d (.bool y)) := by
 refine spec_mir Tryz.func5 rfl (by kernel_rfl) (by kernel_rfl) (fun y : Bool=>.d (.bool y)) ?_ h
 unfold r46_Few
 simp only [List.replicate,List.length,nS,nA,Tryz.ntmps5,SV]
 refine .sR fun e h=>?_
 simp only [seval,EMV]
 refine mU e (.seqK (.sR fun e h=>?_)) h
 simp only [seval,EMV,und_22]
 refine mU e (.cond rfl (fun hb2=>?_) (fun hb2=>?_)) h
 refine .sR fun e h=>?_
 simp only [seval,EMV]
 refine mU e (.ret fun e h=>?_) h
 cases h
 simp only [seval,FMV,Tryz.results5]
 refine .skip (Mir.toK (.seqK (.sR fun e h=>?_)))
 simp only [seval,EMV]
 refine mU e (Mir.join (fun v2 : Unit=>(us 23)) (fun v2=>⟨[],[]⟩) (fun _=>rfl) ?_ ?_) h
 refine .block (.guard fun qg53=>Mir.range (fun (i1 : Nat) (v1 : Unit)=>([.d (.list (List.map encApiStage a0)),.d (.int .i64 a1),U,U,U,.d (.int .i64 (i1 : Int))] ++ us 17)) (fun i1 v1=>⟨[],[]⟩) qg53 (fun _ _=>rfl) (by simp only [seval,FMV,zNI]) (by simp only [seval,FMV,zNI]) ?_ ?_)
 intro i1 e1 v1 qr51
 refine .seqK (.sR fun e h=>?_)
 simp only [seval,EMV,und_22,qr51]
 refine mU e (.condT rfl (.skip (Mir.toK (.seqK (.block (.sR fun e h=>?_)))))) h
 simp only [seval,EMV,und_22,sz_60,qr51,Int.toNat_natCast,fld_60_1,sz_58,ag_58,und_58]
 refine mU e (.cond rfl (fun hb56=>?_) (fun hb56=>?_)) h
 refine .sR fun e h=>?_
 simp only [seval,EMV]
 refine mU e (.ret fun e h=>?_) h
 cases h
 simp only [seval,FMV,Tryz.results5]
 refine .skip (Mir.toB (Mir.toK (.region fun e h=>?_)))
 simp only [seval,EMV]
 cases h
 simp only [seval,FMV,Tryz.results5,qr51]
 intro v1 qd52
 refine .seqK (.sR fun e h=>?_)
 simp only [seval,EMV,und_22,qd52]
 refine mU e (.condF rfl (.exit fun e h=>?_)) h
 cases h
 simp only [seval,FMV,Tryz.results5]
 intro v2
 refine Mir.toK (.sR fun e h=>?_)
 simp only [seval,EMV]
 refine mU e (.ret fun e h=>?_) h
 cases h
 simp only [seval,FMV,Tryz.results5]
def r46_Bare (a0 : (List ApiBlock)) : Option (List ApiBlock) := bindO (guardO (okIdx a0) ( rangeX (fun (i1 : Nat) (e1 : ApiBlock) (v1 : (List ApiBlock))=>bindO (bindO (loopX (fun (v2 : Int × (List ApiWord))=>if (decide (v2.1 < (e1.Words.length : Int))) = true then bindO (bindO (gt e1.Words v2.1) fun (e2 : ApiWord)=>if (e2.Letter != 78) = true then guardO (okLen (v2.2.length + 1)) ( some (v2.2 ++ [e2])) else some v2.2) fun (v3 : (List ApiWord))=>some (.go (IntKind.i64.wrap (v2.1 + 1),v3)) else some (.ret v2.2)) fuel (0,[])) fun (v4 : (List ApiWord))=>guardO (okLen (v1.length + 1)) ( some (v1 ++ [ApiBlock.mk e1.Skip v4 e1.Comment]))) fun (v5 : (List ApiBlock))=>some (.go v5)) (fun (v1 : (List ApiBlock))=>some v1) a0 0 [])) fun (v6 : (List ApiBlock))=>some v6
theorem r46_Bare_spec {a0 : (List ApiBlock)} {y : (List ApiBlock)} (h : r46_Bare a0 = some y) : Spec gP 10 [.d (.list (List.map encApiBlock a0))] (.d (.list (List.map encApiBlock y))) := by
 refine spec_mir Tryz.func10 rfl (by kernel_rfl) (by kernel_rfl) (fun y : (List ApiBlock)=>.d (.list (List.map encApiBlock y))) ?_ h
 unfold r46_Bare
 simp only [List.replicate,List.length,nS,nA,Tryz.ntmps10,SV]
 refine .sR fun e h=>?_
 simp only [seval,EMV]
 refine mU e (.sR fun e h=>?_) h
 simp only [seval,EMV]
 refine mU e (.seqK (.sR fun e h=>?_)) h
 simp only [seval,EMV]
 refine mU e (.gh [.slot 3 48] rfl (Mir.joinO (fun v6 : (List ApiBlock)=>([U,U,U,.own 0 (List.map encApiBlock v6)] ++ us 58)) (fun v6=>⟨[],[(48,v6.length)]⟩) (fun _=>rfl) ?_ ?_)) h
 refine .block (.guard fun q1=>Mir.range (fun (i1 : Nat) (v1 : (List ApiBlock))=>([.d (.list (List.map encApiBlock a0)),U,U,.own 0 (List.map encApiBlock v1),.d (.int .i64 (i1 : Int))] ++ us 57)) (fun i1 v1=>⟨[],[(48,v1.length)]⟩) q1 (fun _ _=>rfl) (by simp only [seval,FMV,zNI]) (by simp only [seval,FMV,zNI]) ?_ ?_)
 intro i1 e1 v1 q2
 refine .seqK (.sR fun e h=>?_)
 simp only [seval,EMV,und_31,q2]
 refine mU e (.condT rfl (.skip (Mir.toK (.seqK (Mir.joinO (fun v5 : (List ApiBlock)=>([.d (.list (List.map encApiBlock a0)),U,U,.own 0 (List.map encApiBlock v5),.d (.int .i64 (i1 : Int))] ++ us 57)) (fun v5=>⟨[],[(48,v5.length)]⟩) (fun _=>rfl) ?_ ?_))))) h
 refine .block (.seqK (.regionD [] (by kernel_rfl) fun e h=>?_))
 simp only [seval,EMV,SB,und_31,sz_48,q2,Int.toNat_natCast,fld_48_0,sz_4,ag_4,fld_48_2,sz_9,ag_9,zero_48,pl_48]
 refine mU e (.seqK (.sR fun e h=>?_)) h
 simp only [seval,EMV]
 refine mU e (.gh [.cell 0 1 83] rfl (Mir.joinO (fun v4 : (List ApiWord)=>([.d (.list (List.map encApiBlock a0)),U,U,.own 0 (List.map encApiBlock v1),.d (.int .i64 (i1 : Int)),.ptr 0 0] ++ us 56)) (fun v4=>⟨[[.d (.bool e1.Skip),.own 1 (List.map encApiWord v4),.d (.str e1.Comment)]],[(48,v1.length),(83,v4.length)]⟩) (fun _=>rfl) ?_ ?_)) h
 refine .block (Mir.loop (fun v2 : Int × (List ApiWord)=>([.d (.list (List.map encApiBlock a0)),U,U,.own 0 (List.map encApiBlock v1),.d (.int .i64 (i1 : Int)),.ptr 0 0,.d (.int .i64 v2.1)] ++ us 55)) (fun v2=>⟨[[.d (.bool e1.Skip),.own 1 (List.map encApiWord v2.2),.d (.str e1.Comment)]],[(48,v1.length),(83,v2.2.length)]⟩) (fun _=>rfl) (by simp only [seval,FMV]) (by simp only [seval,FMV]) fun v2=>.seqK (.sR fun e h=>?_))
 simp only [seval,EMV,und_31,sz_48,q2,Int.toNat_natCast,fld_48_1,sz_46,ag_46,und_46]
 refine mU e (.cond rfl (fun h1=>?_) (fun h1=>?_)) h
 refine .skip (Mir.toK (.seqK (Mir.joinO (fun v3 : (List ApiWord)=>([.d (.list (List.map encApiBlock a0)),U,U,.own 0 (List.map encApiBlock v1),.d (.int .i64 (i1 : Int)),.ptr 0 0,.d (.int .i64 v2.1)] ++ us 55)) (fun v3=>⟨[[.d (.bool e1.Skip),.own 1 (List.map encApiWord v3),.d (.str e1.Comment)]],[(48,v1.length),(83,v3.length)]⟩) (fun _=>rfl) ?_ ?_)))
 refine .block (.seqK (.bind fun e2 q3=>?_))
 replace q3 := gt_ok q3
 refine .region fun e h=>?_
 simp only [seval,EMV,und_31,sz_48,q2,Int.toNat_natCast,fld_48_1,sz_46,ag_46,und_46,sz_83,q3,fld_83_0,sz_5,ag_5]
 refine mU e (.cond rfl (fun h2=>?_) (fun h2=>?_)) h
 refine .guard fun q4=>.regionD [] (by kernel_rfl) fun e h=>?_
 simp only [seval,EMV,SB,fld_48_1,sz_46,ag_46,und_31,sz_48,q2,Int.toNat_natCast,und_46,sz_83,q3,ag_83,zero_83,(oL 2),app_46,al_ApiWord,q4]
 cases h
 simp only [seval,FMV,Tryz.results10]
 refine .skip fun e h=>?_
 cases h
 simp only [seval,FMV,Tryz.results10]
 intro v3
 refine Mir.toK (.region fun e h=>?_)
 simp only [seval,EMV]
 cases h
 simp only [seval,FMV,Tryz.results10]
 refine .exit fun e h=>?_
 cases h
 simp only [seval,FMV,Tryz.results10]
 intro v4
 refine Mir.toK (.guard fun q5=>.region fun e h=>?_)
 simp only [seval,EMV,ag_48,sz_48,und_31,zero_48,(oL 3),app_31,al_ApiBlock,q5]
 cases h
 simp only [seval,FMV,Tryz.results10]
 intro v5
 refine Mir.toK (.region fun e h=>?_)
 simp only [seval,EMV]
 cases h
 simp only [seval,FMV,Tryz.results10,q2]
 intro v1 q6
 refine .seqK (.sR fun e h=>?_)
 simp only [seval,EMV,und_31,q6]
 refine mU e (.condF rfl (.exit fun e h=>?_)) h
 cases h
 simp only [seval,FMV,Tryz.results10]
 intro v6
 refine Mir.toK (.sR fun e h=>?_)
 simp only [seval,EMV]
 refine mU e (.ret fun e h=>?_) h
 cases h
 simp only [seval,FMV,Tryz.results10]
def r41_Equal (a0 : ApiBlock) (a1 : ApiBlock) : Option Bool := if (!(a0.Skip == a1.Skip) || (!(a0.Comment == a1.Comment) || ((a0.Words.length : Int) != (a1.Words.length : Int)))) = true then some false else bindX (guardO (okIdx a0.Words) ( rangeX (fun (i1 : Nat) (e1 : ApiWord) (v1 : Unit)=>bindO (gt a1.Words (i1 : Int)) fun (e2 : ApiWord)=>if (!((e1.Letter == e2.Letter) && (e1.Value == e2.Value))) = true then some (.ret (.ret false)) else some (.go ())) (fun (v1 : Unit)=>some (.go ())) a0.Words 0 ())) fun (v2 : Unit)=>some true
theorem r41_Equal_spec {a0 : ApiBlock} {a1 : ApiBlock} {y : Bool} (h : r41_Equal a0 a1 = some y) : Spec gP 34 [.agg [.d (.bool a0.Skip),.d (.list (List.map encApiWord a0.Words)),.d (.str a0.Comment)],.agg [.d (.bool a1.Skip),.d (.list (List.map encApiWord a1.Words)),.d (.str a1.Comment)]] (.d (.bool y)) := by
 refine spec_mir Tryz.func34 rfl (by kernel_rfl) (by kernel_rfl) (fun y : Bool=>.d (.bool y)) ?_ h
 unfold r41_Equal
 simp only [List.replicate,List.length,nS,nA,Tryz.ntmps34,SV]
 refine .sR fun e h=>?_
 simp only [seval,EMV]
 refine mU e (.seqK (.seqK (.joinV ([U,U,.ptr 0 0,.ptr 1 0,U,U,U,U,U,U,U,U,U,U,U,U,U,U,U,U,U,U,U,U,U,U,.d (.bool (!(a0.Skip == a1.Skip) || (!(a0.Comment == a1.Comment) || ((a0.Words.length : Int) != (a1.Words.length : Int)))))] ++ us 18) ⟨[[.d (.bool a0.Skip),.d (.list (List.map encApiWord a0.Words)),.d (.str a0.Comment)],[.d (.bool a1.Skip),.d (.list (List.map encApiWord a1.Words)),.d (.str a1.Comment)]],[]⟩ rfl ?_ ?_))) h
 refine SWs.region ?_
 rcases Bool.eq_false_or_eq_true (a0.Skip == a1.Skip) with hb1 | hb1
 rcases Bool.eq_false_or_eq_true (a0.Comment == a1.Comment) with hb2 | hb2
 simp only [seval,EMV,SL,PB,fld_48_0,sz_4,ag_4,und_4,fld_48_2,sz_9,ag_9,fld_48_1,sz_46,ag_46,und_46,hb1,hb2]
 simp only [seval,EMV,SL,PB,fld_48_0,sz_4,ag_4,und_4,fld_48_2,sz_9,ag_9,hb1,hb2]
 simp only [seval,EMV,SL,PB,fld_48_0,sz_4,ag_4,und_4,hb1]
 refine Mir.toK (.cond rfl (fun hb4=>?_) (fun hb4=>?_))
 refine .sR fun e h=>?_
 simp only [seval,EMV]
 refine mU e (.ret fun e h=>?_) h
 cases h
 simp only [seval,FMV,Tryz.results34]
 refine .skip (Mir.toK (.seqK (.sR fun e h=>?_)))
 simp only [seval,EMV]
 refine mU e (Mir.join (fun v2 : Unit=>(us 45)) (fun v2=>⟨[[.d (.bool a0.Skip),.d (.list (List.map encApiWord a0.Words)),.d (.str a0.Comment)],[.d (.bool a1.Skip),.d (.list (List.map encApiWord a1.Words)),.d (.str a1.Comment)]],[]⟩) (fun _=>rfl) ?_ ?_) h
 refine .block (.guard fun qg69=>Mir.range (fun (i1 : Nat) (v1 : Unit)=>([U,U,.ptr 0 0,.ptr 1 0,U,.d (.int .i64 (i1 : Int))] ++ us 39)) (fun i1 v1=>⟨[[.d (.bool a0.Skip),.d (.list (List.map encApiWord a0.Words)),.d (.str a0.Comment)],[.d (.bool a1.Skip),.d (.list (List.map encApiWord a1.Words)),.d (.str a1.Comment)]],[]⟩) qg69 (fun _ _=>rfl) (by simp only [seval,FMV,zNI]) (by simp only [seval,FMV,zNI]) ?_ ?_)
 intro i1 e1 v1 qr67
 refine .seqK (.sR fun e h=>?_)
 simp only [seval,EMV,fld_48_1,sz_46,ag_46,und_46,qr67]
 refine mU e (.condT rfl (.skip (Mir.toK (.seqK (.block (.seqK (.bind fun e2 q72=>?_))))))) h
 replace q72 := gt_ok q72
 simp only [Int.toNat_natCast] at q72
 refine .regionD [] (by kernel_rfl) fun e h=>?_
 simp only [seval,EMV,SB,fld_48_1,sz_46,ag_46,und_46,sz_83,qr67,Int.toNat_natCast,ag_83,q72,gE_83]
 refine mU e (.cond rfl (fun hb74=>?_) (fun hb74=>?_)) h
 refine .sR fun e h=>?_
 simp only [seval,EMV]
 refine mU e (.ret fun e h=>?_) h
 cases h
 simp only [seval,FMV,Tryz.results34]
 refine .skip (Mir.toB (Mir.toK (.region fun e h=>?_)))
 simp only [seval,EMV]
 cases h
 simp only [seval,FMV,Tryz.results34,qr67]
 intro v1 qd68
 refine .seqK (.sR fun e h=>?_)
 simp only [seval,EMV,fld_48_1,sz_46,ag_46,und_46,qd68]
 refine mU e (.condF rfl (.exit fun e h=>?_)) h
 cases h
 simp only [seval,FMV,Tryz.results34]
 intro v2
 refine Mir.toK (.sR fun e h=>?_)
 simp only [seval,EMV]
 refine mU e (.ret fun e h=>?_) h
 cases h
 simp only [seval,FMV,Tryz.results34]
def r41_Same (a0 : (List ApiBlock)) (a1 : (List ApiBlock)) : Option Bool := if ((a0.length : Int) != (a1.length : Int)) = true then some false else bindX (guardO (okIdx a0) ( rangeX (fun (i1 : Nat) (e1 : ApiBlock) (v1 : Unit)=>bindO (gt a1 (i1 : Int)) fun (e2 : ApiBlock)=>bindO (r41_Equal e1 e2) fun (y1 : Bool)=>if (!y1) = true then some (.ret (.ret false)) else some (.go ())) (fun (v1 : Unit)=>some (.go ())) a0 0 ())) fun (v2 : Unit)=>some true
theorem r41_Same_spec {a0 : (List ApiBlock)} {a1 : (List ApiBlock)} {y : Bool} (h : r41_Same a0 a1 = some y) : Spec gP 9 [.d (.list (List.map encApiBlock a0)),.d (.list (List.map encApiBlock a1))] (.d (.bool y)) := by
 refine spec_mir Tryz.func9 rfl (by kernel_rfl) (by kernel_rfl) (fun y : Bool=>.d (.bool y)) ?_ h
 unfold r41_Same
 simp only [List.replicate,List.length,nS,nA,Tryz.ntmps9,SV]
 refine .sR fun e h=>?_
 simp only [seval,EMV]
 refine mU e (.seqK (.sR fun e h=>?_)) h
 simp only [seval,EMV,und_31]
 refine mU e (.cond rfl (fun hb2=>?_) (fun hb2=>?_)) h
 refine .sR fun e h=>?_
 simp only [seval,EMV]
 refine mU e (.ret fun e h=>?_) h
 cases h
 simp only [seval,FMV,Tryz.results9]
 refine .skip (Mir.toK (.seqK (.sR fun e h=>?_)))
 simp only [seval,EMV]
 refine mU e (Mir.join (fun v2 : Unit=>(us 27)) (fun v2=>⟨[],[]⟩) (fun _=>rfl) ?_ ?_) h
 refine .block (.guard fun qg81=>Mir.range (fun (i1 : Nat) (v1 : Unit)=>([.d (.list (List.map encApiBlock a0)),.d (.list (List.map encApiBlock a1)),U,U,U,.d (.int .i64 (i1 : Int))] ++ us 21)) (fun i1 v1=>⟨[],[]⟩) qg81 (fun _ _=>rfl) (by simp only [seval,FMV,zNI]) (by simp only [seval,FMV,zNI]) ?_ ?_)
 intro i1 e1 v1 qr79
 refine .seqK (.sR fun e h=>?_)
 simp only [seval,EMV,und_31,qr79]
 refine mU e (.condT rfl (.skip (Mir.toK (.seqK (.block (.seqK (.bind fun e2 q85=>?_))))))) h
 replace q85 := gt_ok q85
 simp only [Int.toNat_natCast] at q85
 refine .bind fun y1 hy86=>.regionD [] (by kernel_rfl) fun e h=>?_
 simp only [seval,EMV,SB,und_31,sz_48,qr79,Int.toNat_natCast,ag_48,q85]
 refine Spec.by (r41_Equal_spec hy86) (by simp only [seval,FMV]) ?_
 simp only [seval,EMV,SB]
 refine mU e (.cond rfl (fun hb88=>?_) (fun hb88=>?_)) h
 refine .sR fun e h=>?_
 simp only [seval,EMV]
 refine mU e (.ret fun e h=>?_) h
 cases h
 simp only [seval,FMV,Tryz.results9]
 refine .skip (Mir.toB (Mir.toK (.region fun e h=>?_)))
 simp only [seval,EMV]
 cases h
 simp only [seval,FMV,Tryz.results9,qr79]
 intro v1 qd80
 refine .seqK (.sR fun e h=>?_)
 simp only [seval,EMV,und_31,qd80]
 refine mU e (.condF rfl (.exit fun e h=>?_)) h
 cases h
 simp only [seval,FMV,Tryz.results9]
 intro v2
 refine Mir.toK (.sR fun e h=>?_)
 simp only [seval,EMV]
 refine mU e (.ret fun e h=>?_) h
 cases h
 simp only [seval,FMV,Tryz.results9]
end Go.Proofs.YtjgngikiglhleaaGreatDoor
