import Derived.Test.YtopjpenbieojmaaDoorGx
import Derived.Test.YtopjpenbieojmaaDoorTy
import Derived.Test.YtopjpenbieojmaaDoorMB
import Derived.Test.YtopjpenbieojmaaDoorMH
namespace Go.Proofs.YtopjpenbieojmaaDoor
open Go.RowKit
open Nat renaming reduceAdd → nA, reduceSub → nS, reduceMul → nM, reduceEqDiff → nE, reduceLeDiff → nL, reduceLT → nT, reduceBEq → nB
open Int renaming reduceLT → iT, reduceToNat → iN, reduceEq → iE
set_option linter.unusedVariables false
set_option linter.unusedSimpArgs false
set_option maxRecDepth 100000
set_option maxHeartbeats 8000000
theorem EMW : type_of% (And.intro @SE <| @ENMB) := And.intro @SE <| @ENMB
theorem FMW : type_of% (And.intro @SF <| @ENMB) := And.intro @SF <| @ENMB
def r45_index (a0 : Int) : Option Int := if ((decide (a0 < 54000)) || ((decide (a0 > 59000)) || ((Int.tmod a0 1000) != 0))) = true then some (-1) else some (IntKind.i64.wrap ((IntKind.i64.wrap (Int.tdiv a0 1000)) - 54))
theorem r45_index_spec {a0 : Int} {y : Int} (h : r45_index a0 = some y) : Spec gP 52 [.d (.int .i64 a0)] (.d (.int .i64 y)) := by
 refine spec_mir Tryd.func52 rfl (by kernel_rfl) (by kernel_rfl) (fun y : Int => .d (.int .i64 y)) ?_ h
 unfold r45_index
 simp only [List.replicate, List.length, nS, nA, Tryd.ntmps52, SV]
 refine .sR fun e h=>?_
 simp only [seval,EMW]
 refine mU e (.seqK (.seqK (.joinV [.d (.int .i64 a0),U,U,U,U,U,U,U,U,U,U,U,U,.d (.bool ((decide (a0 < 54000)) || ((decide (a0 > 59000)) || ((Int.tmod a0 1000) != 0)))),U,U,U] ⟨[],[]⟩ rfl ?_ ?_))) h
 refine SWs.region ?_
 rcases Bool.eq_false_or_eq_true (decide (a0 < 54000)) with hb1 | hb1
 simp only [seval,EMW,SL,PB,hb1]
 rcases Bool.eq_false_or_eq_true (decide (a0 > 59000)) with hb2 | hb2
 simp only [seval,EMW,SL,PB,hb1,hb2]
 simp only [seval,EMW,SL,PB,hb1,hb2]
 refine Mir.toK (.cond rfl (fun hb4=>?_) (fun hb4=>?_))
 refine .sR fun e h=>?_
 simp only [seval,EMW]
 refine mU e (.ret fun e h=>?_) h
 cases h
 simp only [seval,FMW,Tryd.results52]
 refine .skip (Mir.toK (.sR fun e h=>?_))
 simp only [seval,EMW]
 refine mU e (.ret fun e h=>?_) h
 cases h
 simp only [seval,FMW,Tryd.results52]
def r45_shift (a0 : R45Table) (a1 : Int) (a2 : Int) : Option (ApiPos × Int) := bindO (r45_Valid a0) fun (y1 : Int) => if (y1 != 0) = true then some (ApiPos.mk 0 0 0, y1) else bindO (r45_index a1) fun (y2 : Int) => if (decide (y2 < 0)) = true then some (ApiPos.mk 0 0 0, 4) else bindO (guardO (decide (0 ≤ y2 ∧ y2 < 6)) ( if (y2 == 0) = true then some a0.Work.e0 else if (y2 == 1) = true then some a0.Work.e1 else if (y2 == 2) = true then some a0.Work.e2 else if (y2 == 3) = true then some a0.Work.e3 else if (y2 == 4) = true then some a0.Work.e4 else some a0.Work.e5)) fun (v1 : ApiPos) => if (a2 == 0) = true then some (v1, 0) else bindX (guardO (okIdx a0.Lengths) ( rangeX (fun (i1 : Nat) (e1 : R45Length) (v2 : Unit) => if (e1.Number == a2) = true then some (.ret (.ret (ApiPos.mk v1.X v1.Y (IntKind.i64.wrap (v1.Z + e1.Length)), 0))) else some (.go ())) (fun (v2 : Unit) => some (.go ())) a0.Lengths 0 ())) fun (v3 : Unit) => some (ApiPos.mk 0 0 0, 4)
theorem r45_shift_spec {a0 : R45Table} {a1 : Int} {a2 : Int} {y : ApiPos × Int} (h : r45_shift a0 a1 a2 = some y) : Spec gP 36 [.agg [.d (.int .i64 a0.Work.e0.X), .d (.int .i64 a0.Work.e0.Y), .d (.int .i64 a0.Work.e0.Z), .d (.int .i64 a0.Work.e1.X), .d (.int .i64 a0.Work.e1.Y), .d (.int .i64 a0.Work.e1.Z), .d (.int .i64 a0.Work.e2.X), .d (.int .i64 a0.Work.e2.Y), .d (.int .i64 a0.Work.e2.Z), .d (.int .i64 a0.Work.e3.X), .d (.int .i64 a0.Work.e3.Y), .d (.int .i64 a0.Work.e3.Z), .d (.int .i64 a0.Work.e4.X), .d (.int .i64 a0.Work.e4.Y), .d (.int .i64 a0.Work.e4.Z), .d (.int .i64 a0.Work.e5.X), .d (.int .i64 a0.Work.e5.Y), .d (.int .i64 a0.Work.e5.Z), .d (.list (List.map encR45Length a0.Lengths))], .d (.int .i64 a1), .d (.int .i64 a2)] (.tuple [.agg [.d (.int .i64 y.1.X), .d (.int .i64 y.1.Y), .d (.int .i64 y.1.Z)], .d (.int .i64 y.2)]) := by
 refine spec_mir Tryd.func36 rfl (by kernel_rfl) (by kernel_rfl) (fun y : ApiPos × Int => .tuple [.agg [.d (.int .i64 y.1.X), .d (.int .i64 y.1.Y), .d (.int .i64 y.1.Z)], .d (.int .i64 y.2)]) ?_ h
 unfold r45_shift
 simp only [List.replicate, List.length, nS, nA, Tryd.ntmps36, SV]
 refine .sR fun e h=>?_
 simp only [seval,EMW,zero_24]
 refine mU e (.seqK (.seqK (.bind fun y1 hy1=>.region fun e h=>?_))) h
 simp only [seval,EMW,ag_28,sz_28]
 refine SpecS.by (r45_Valid_spec hy1) (by simp only [seval,FMW]) ?_
 simp only [seval,EMW]
 refine mU e (.sR fun e h=>?_) h
 simp only [seval,EMW]
 refine mU e (.cond rfl (fun hb3=>?_) (fun hb3=>?_)) h
 refine .sR fun e h=>?_
 simp only [seval,EMW,zero_24,pl_24,sz_24]
 refine mU e (.ret fun e h=>?_) h
 cases h
 simp only [seval,FMW,Tryd.results36,ag_24,sz_24]
 refine .skip (Mir.toK (.seqK (.bind fun y2 hy4=>.region fun e h=>?_)))
 simp only [seval,EMW]
 refine SpecS.by (r45_index_spec hy4) (by simp only [seval,FMW]) ?_
 simp only [seval,EMW]
 refine mU e (.seqK (.sR fun e h=>?_)) h
 simp only [seval,EMW]
 refine mU e (.cond rfl (fun hb6=>?_) (fun hb6=>?_)) h
 refine .sR fun e h=>?_
 simp only [seval,EMW,zero_24,pl_24,sz_24]
 refine mU e (.ret fun e h=>?_) h
 cases h
 simp only [seval,FMW,Tryd.results36,ag_24,sz_24]
 refine .skip (Mir.toK (.seqK (Mir.joinO (fun v1 : ApiPos=>([U,U,.d (.int .i64 a2),.ptr 0 0,U,U,.ptr 1 0,U,U,U,.ptr 2 0] ++ us 46)) (fun v1=>⟨[[.d (.int .i64 a0.Work.e0.X),.d (.int .i64 a0.Work.e0.Y),.d (.int .i64 a0.Work.e0.Z),.d (.int .i64 a0.Work.e1.X),.d (.int .i64 a0.Work.e1.Y),.d (.int .i64 a0.Work.e1.Z),.d (.int .i64 a0.Work.e2.X),.d (.int .i64 a0.Work.e2.Y),.d (.int .i64 a0.Work.e2.Z),.d (.int .i64 a0.Work.e3.X),.d (.int .i64 a0.Work.e3.Y),.d (.int .i64 a0.Work.e3.Z),.d (.int .i64 a0.Work.e4.X),.d (.int .i64 a0.Work.e4.Y),.d (.int .i64 a0.Work.e4.Z),.d (.int .i64 a0.Work.e5.X),.d (.int .i64 a0.Work.e5.Y),.d (.int .i64 a0.Work.e5.Z),.d (.list (List.map encR45Length a0.Lengths))],[.d (.int .i64 0),.d (.int .i64 0),.d (.int .i64 0)],[.d (.int .i64 v1.X),.d (.int .i64 v1.Y),.d (.int .i64 v1.Z)]],[]⟩) (fun _=>rfl) ?_ ?_)))
 refine .guard fun qi7=>.ite (fun hb8=>?_) (fun hb8=>?_)
 refine .region fun e h=>?_
 simp only [seval,EMW,fld_28_0,sz_25,und_25,(eq_of_beq hb8),sz_24,ag_24,zero_24,hb8]
 cases h
 simp only [seval,FMW,hb8]
 refine .ite (fun hb9=>?_) (fun hb9=>?_)
 refine .region fun e h=>?_
 simp only [seval,EMW,fld_28_0,sz_25,und_25,(eq_of_beq hb9),sz_24,ag_24,zero_24,hb8,hb9]
 cases h
 simp only [seval,FMW,hb8,hb9]
 refine .ite (fun hb10=>?_) (fun hb10=>?_)
 refine .region fun e h=>?_
 simp only [seval,EMW,fld_28_0,sz_25,und_25,(eq_of_beq hb10),sz_24,ag_24,zero_24,hb8,hb9,hb10]
 cases h
 simp only [seval,FMW,hb8,hb9,hb10]
 refine .ite (fun hb11=>?_) (fun hb11=>?_)
 refine .region fun e h=>?_
 simp only [seval,EMW,fld_28_0,sz_25,und_25,(eq_of_beq hb11),sz_24,ag_24,zero_24,hb8,hb9,hb10,hb11]
 cases h
 simp only [seval,FMW,hb8,hb9,hb10,hb11]
 refine .ite (fun hb12=>?_) (fun hb12=>?_)
 refine .region fun e h=>?_
 simp only [seval,EMW,fld_28_0,sz_25,und_25,(eq_of_beq hb12),sz_24,ag_24,zero_24,hb8,hb9,hb10,hb11,hb12]
 cases h
 simp only [seval,FMW,hb8,hb9,hb10,hb11,hb12]
 have hz13 : y2 = 5 := by have h0 := of_decide_eq_true qi7; have h1 := ne_of_beq_false hb8; have h2 := ne_of_beq_false hb9; have h3 := ne_of_beq_false hb10; have h4 := ne_of_beq_false hb11; have h5 := ne_of_beq_false hb12; omega
 refine .region fun e h=>?_
 simp only [seval,EMW,fld_28_0,sz_25,und_25,hz13,sz_24,ag_24,zero_24,hb8,hb9,hb10,hb11,hb12]
 cases h
 simp only [seval,FMW,hb8,hb9,hb10,hb11,hb12]
 intro v1
 refine Mir.toK (.seqK (.sR fun e h=>?_))
 simp only [seval,EMW]
 refine mU e (.cond rfl (fun hb15=>?_) (fun hb15=>?_)) h
 refine .sR fun e h=>?_
 simp only [seval,EMW,ag_24,sz_24]
 refine mU e (.ret fun e h=>?_) h
 cases h
 simp only [seval,FMW,Tryd.results36,ag_24,sz_24]
 refine .skip (Mir.toK (.seqK (.sR fun e h=>?_)))
 simp only [seval,EMW]
 refine mU e (Mir.join (fun v3 : Unit=>([U,U,U,U,U,U,.ptr 1 0] ++ us 50)) (fun v3=>⟨[[.d (.int .i64 a0.Work.e0.X),.d (.int .i64 a0.Work.e0.Y),.d (.int .i64 a0.Work.e0.Z),.d (.int .i64 a0.Work.e1.X),.d (.int .i64 a0.Work.e1.Y),.d (.int .i64 a0.Work.e1.Z),.d (.int .i64 a0.Work.e2.X),.d (.int .i64 a0.Work.e2.Y),.d (.int .i64 a0.Work.e2.Z),.d (.int .i64 a0.Work.e3.X),.d (.int .i64 a0.Work.e3.Y),.d (.int .i64 a0.Work.e3.Z),.d (.int .i64 a0.Work.e4.X),.d (.int .i64 a0.Work.e4.Y),.d (.int .i64 a0.Work.e4.Z),.d (.int .i64 a0.Work.e5.X),.d (.int .i64 a0.Work.e5.Y),.d (.int .i64 a0.Work.e5.Z),.d (.list (List.map encR45Length a0.Lengths))],[.d (.int .i64 0),.d (.int .i64 0),.d (.int .i64 0)],[.d (.int .i64 v1.X),.d (.int .i64 v1.Y),.d (.int .i64 v1.Z)]],[]⟩) (fun _=>rfl) ?_ ?_) h
 refine .block (.guard fun qg66=>Mir.range (fun (i1 : Nat) (v2 : Unit)=>([U,U,.d (.int .i64 a2),.ptr 0 0,U,U,.ptr 1 0,U,U,U,.ptr 2 0,.d (.int .i64 (i1 : Int))] ++ us 45)) (fun i1 v2=>⟨[[.d (.int .i64 a0.Work.e0.X),.d (.int .i64 a0.Work.e0.Y),.d (.int .i64 a0.Work.e0.Z),.d (.int .i64 a0.Work.e1.X),.d (.int .i64 a0.Work.e1.Y),.d (.int .i64 a0.Work.e1.Z),.d (.int .i64 a0.Work.e2.X),.d (.int .i64 a0.Work.e2.Y),.d (.int .i64 a0.Work.e2.Z),.d (.int .i64 a0.Work.e3.X),.d (.int .i64 a0.Work.e3.Y),.d (.int .i64 a0.Work.e3.Z),.d (.int .i64 a0.Work.e4.X),.d (.int .i64 a0.Work.e4.Y),.d (.int .i64 a0.Work.e4.Z),.d (.int .i64 a0.Work.e5.X),.d (.int .i64 a0.Work.e5.Y),.d (.int .i64 a0.Work.e5.Z),.d (.list (List.map encR45Length a0.Lengths))],[.d (.int .i64 0),.d (.int .i64 0),.d (.int .i64 0)],[.d (.int .i64 v1.X),.d (.int .i64 v1.Y),.d (.int .i64 v1.Z)]],[]⟩) qg66 (fun _ _=>rfl) (by simp only [seval,FMW,zNI]) (by simp only [seval,FMW,zNI]) ?_ ?_)
 intro i1 e1 v2 qr64
 refine .seqK (.sR fun e h=>?_)
 simp only [seval,EMW,fld_28_1,sz_26,ag_26,und_26,qr64]
 refine mU e (.condT rfl (.skip (Mir.toK (.seqK (.block (.sR fun e h=>?_)))))) h
 simp only [seval,EMW,fld_28_1,sz_26,ag_26,und_26,sz_73,qr64,Int.toNat_natCast,fld_73_0,sz_2,ag_2]
 refine mU e (.cond rfl (fun hb69=>?_) (fun hb69=>?_)) h
 refine .seqK (.regionD [] (by kernel_rfl) fun e h=>?_)
 simp only [seval,EMW,SB,fld_24_2,sz_2,ag_2,fld_28_1,sz_26,ag_26,und_26,sz_73,qr64,Int.toNat_natCast,fld_73_1]
 refine mU e (.sR fun e h=>?_) h
 simp only [seval,EMW,ag_24,sz_24]
 refine mU e (.ret fun e h=>?_) h
 cases h
 simp only [seval,FMW,Tryd.results36,ag_24,sz_24]
 refine .skip (Mir.toB (Mir.toK (.region fun e h=>?_)))
 simp only [seval,EMW]
 cases h
 simp only [seval,FMW,Tryd.results36,ag_24,sz_24,qr64]
 intro v2 qd65
 refine .seqK (.sR fun e h=>?_)
 simp only [seval,EMW,fld_28_1,sz_26,ag_26,und_26,qd65]
 refine mU e (.condF rfl (.exit fun e h=>?_)) h
 cases h
 simp only [seval,FMW,Tryd.results36,ag_24,sz_24]
 intro v3
 refine Mir.toK (.sR fun e h=>?_)
 simp only [seval,EMW,zero_24,pl_24,sz_24]
 refine mU e (.ret fun e h=>?_) h
 cases h
 simp only [seval,FMW,Tryd.results36,ag_24,sz_24]
def r45_move (a0 : R45Table) (a1 : Int) (a2 : Int) (a3 : ApiPos) (a4 : Int) : Option (ApiPos × Int) := bindO (r45_shift a0 a1 a2) fun (y1 : ApiPos × Int) => if (y1.2 != 0) = true then some (ApiPos.mk 0 0 0, y1.2) else bindO (r45_out a3) fun (y2 : Bool) => if y2 = true then some (ApiPos.mk 0 0 0, 11) else bindO (r45_out (ApiPos.mk (IntKind.i64.wrap (a3.X + (IntKind.i64.wrap (a4 * y1.1.X)))) (IntKind.i64.wrap (a3.Y + (IntKind.i64.wrap (a4 * y1.1.Y)))) (IntKind.i64.wrap (a3.Z + (IntKind.i64.wrap (a4 * y1.1.Z)))))) fun (y3 : Bool) => if y3 = true then some (ApiPos.mk 0 0 0, 11) else some (ApiPos.mk (IntKind.i64.wrap (a3.X + (IntKind.i64.wrap (a4 * y1.1.X)))) (IntKind.i64.wrap (a3.Y + (IntKind.i64.wrap (a4 * y1.1.Y)))) (IntKind.i64.wrap (a3.Z + (IntKind.i64.wrap (a4 * y1.1.Z)))), 0)
theorem r45_move_spec {a0 : R45Table} {a1 : Int} {a2 : Int} {a3 : ApiPos} {a4 : Int} {y : ApiPos × Int} (h : r45_move a0 a1 a2 a3 a4 = some y) : Spec gP 24 [.agg [.d (.int .i64 a0.Work.e0.X), .d (.int .i64 a0.Work.e0.Y), .d (.int .i64 a0.Work.e0.Z), .d (.int .i64 a0.Work.e1.X), .d (.int .i64 a0.Work.e1.Y), .d (.int .i64 a0.Work.e1.Z), .d (.int .i64 a0.Work.e2.X), .d (.int .i64 a0.Work.e2.Y), .d (.int .i64 a0.Work.e2.Z), .d (.int .i64 a0.Work.e3.X), .d (.int .i64 a0.Work.e3.Y), .d (.int .i64 a0.Work.e3.Z), .d (.int .i64 a0.Work.e4.X), .d (.int .i64 a0.Work.e4.Y), .d (.int .i64 a0.Work.e4.Z), .d (.int .i64 a0.Work.e5.X), .d (.int .i64 a0.Work.e5.Y), .d (.int .i64 a0.Work.e5.Z), .d (.list (List.map encR45Length a0.Lengths))], .d (.int .i64 a1), .d (.int .i64 a2), .agg [.d (.int .i64 a3.X), .d (.int .i64 a3.Y), .d (.int .i64 a3.Z)], .d (.int .i64 a4)] (.tuple [.agg [.d (.int .i64 y.1.X), .d (.int .i64 y.1.Y), .d (.int .i64 y.1.Z)], .d (.int .i64 y.2)]) := by
 refine spec_mir Tryd.func24 rfl (by kernel_rfl) (by kernel_rfl) (fun y : ApiPos × Int => .tuple [.agg [.d (.int .i64 y.1.X), .d (.int .i64 y.1.Y), .d (.int .i64 y.1.Z)], .d (.int .i64 y.2)]) ?_ h
 unfold r45_move
 simp only [List.replicate, List.length, nS, nA, Tryd.ntmps24, SV]
 refine .sR fun e h=>?_
 simp only [seval,EMW,zero_24]
 refine mU e (.seqK (.bind fun y1 hy1=>.region fun e h=>?_)) h
 simp only [seval,EMW,ag_28,sz_28]
 refine SpecS.by (r45_shift_spec hy1) (by simp only [seval,FMW]) ?_
 simp only [seval,EMW,zero_24,sz_24]
 refine mU e (.seqK (.sR fun e h=>?_)) h
 simp only [seval,EMW]
 refine mU e (.cond rfl (fun hb3=>?_) (fun hb3=>?_)) h
 refine .sR fun e h=>?_
 simp only [seval,EMW,zero_24,pl_24,sz_24]
 refine mU e (.ret fun e h=>?_) h
 cases h
 simp only [seval,FMW,Tryd.results24,ag_24,sz_24]
 refine .skip (Mir.toK (.seqK (.seqK (.bind fun y2 hy4=>.region fun e h=>?_))))
 simp only [seval,EMW,ag_24,sz_24]
 refine SpecS.by (r45_out_spec hy4) (by simp only [seval,FMW]) ?_
 simp only [seval,EMW]
 refine mU e (.cond rfl (fun hb6=>?_) (fun hb6=>?_)) h
 refine .sR fun e h=>?_
 simp only [seval,EMW,zero_24,pl_24,sz_24]
 refine mU e (.ret fun e h=>?_) h
 cases h
 simp only [seval,FMW,Tryd.results24,ag_24,sz_24]
 refine .skip (Mir.toK (.sR fun e h=>?_))
 simp only [seval,EMW,fld_24_0,sz_2,ag_2,fld_24_1,fld_24_2,zero_24,pl_24,sz_24]
 refine mU e (.seqK (.seqK (.bind fun y3 hy7=>.region fun e h=>?_))) h
 simp only [seval,EMW,ag_24,sz_24]
 refine SpecS.by (r45_out_spec hy7) (by simp only [seval,FMW]) ?_
 simp only [seval,EMW]
 refine mU e (.cond rfl (fun hb9=>?_) (fun hb9=>?_)) h
 refine .sR fun e h=>?_
 simp only [seval,EMW,zero_24,pl_24,sz_24]
 refine mU e (.ret fun e h=>?_) h
 cases h
 simp only [seval,FMW,Tryd.results24,ag_24,sz_24]
 refine .skip (Mir.toK (.sR fun e h=>?_))
 simp only [seval,EMW,ag_24,sz_24]
 refine mU e (.ret fun e h=>?_) h
 cases h
 simp only [seval,FMW,Tryd.results24,ag_24,sz_24]
def r45_Work (a0 : R45Table) (a1 : Int) (a2 : Int) (a3 : ApiPos) : Option (ApiPos × Int) := bindO (r45_move a0 a1 a2 a3 (-1)) fun (y1 : ApiPos × Int) => some (y1.1, y1.2)
theorem r45_Work_spec {a0 : R45Table} {a1 : Int} {a2 : Int} {a3 : ApiPos} {y : ApiPos × Int} (h : r45_Work a0 a1 a2 a3 = some y) : Spec gP 8 [.agg [.d (.int .i64 a0.Work.e0.X), .d (.int .i64 a0.Work.e0.Y), .d (.int .i64 a0.Work.e0.Z), .d (.int .i64 a0.Work.e1.X), .d (.int .i64 a0.Work.e1.Y), .d (.int .i64 a0.Work.e1.Z), .d (.int .i64 a0.Work.e2.X), .d (.int .i64 a0.Work.e2.Y), .d (.int .i64 a0.Work.e2.Z), .d (.int .i64 a0.Work.e3.X), .d (.int .i64 a0.Work.e3.Y), .d (.int .i64 a0.Work.e3.Z), .d (.int .i64 a0.Work.e4.X), .d (.int .i64 a0.Work.e4.Y), .d (.int .i64 a0.Work.e4.Z), .d (.int .i64 a0.Work.e5.X), .d (.int .i64 a0.Work.e5.Y), .d (.int .i64 a0.Work.e5.Z), .d (.list (List.map encR45Length a0.Lengths))], .d (.int .i64 a1), .d (.int .i64 a2), .agg [.d (.int .i64 a3.X), .d (.int .i64 a3.Y), .d (.int .i64 a3.Z)]] (.tuple [.agg [.d (.int .i64 y.1.X), .d (.int .i64 y.1.Y), .d (.int .i64 y.1.Z)], .d (.int .i64 y.2)]) := by
 refine spec_mir Tryd.func8 rfl (by kernel_rfl) (by kernel_rfl) (fun y : ApiPos × Int => .tuple [.agg [.d (.int .i64 y.1.X), .d (.int .i64 y.1.Y), .d (.int .i64 y.1.Z)], .d (.int .i64 y.2)]) ?_ h
 unfold r45_Work
 simp only [List.replicate, List.length, nS, nA, Tryd.ntmps8, SV]
 refine .sR fun e h=>?_
 simp only [seval,EMW,zero_24]
 refine mU e (.seqK (.bind fun y1 hy1=>.region fun e h=>?_)) h
 simp only [seval,EMW,ag_28,sz_28,ag_24,sz_24]
 refine SpecS.by (r45_move_spec hy1) (by simp only [seval,FMW]) ?_
 simp only [seval,EMW,sz_24]
 refine mU e (.ret fun e h=>?_) h
 cases h
 simp only [seval,FMW,Tryd.results8,ag_24,sz_24]
end Go.Proofs.YtopjpenbieojmaaDoor
