import Derived.Test.YtopjpenbieojmaaDoorGx
import Derived.Test.YtopjpenbieojmaaDoorTy
import Derived.Test.YtopjpenbieojmaaDoorSzb
import Derived.Test.YtopjpenbieojmaaDoorGo
import Derived.Test.YtopjpenbieojmaaDoorMB
import Derived.Test.YtopjpenbieojmaaDoorMH
import Derived.Test.YtopjpenbieojmaaDoorMW
namespace Go.Proofs.YtopjpenbieojmaaDoor
open Go.RowKit
open Nat renaming reduceAdd → nA, reduceSub → nS, reduceMul → nM, reduceEqDiff → nE, reduceLeDiff → nL, reduceLT → nT, reduceBEq → nB
open Int renaming reduceLT → iT, reduceToNat → iN, reduceEq → iE
set_option linter.unusedVariables false
set_option linter.unusedSimpArgs false
set_option maxRecDepth 100000
set_option maxHeartbeats 8000000
structure Arr3I16 where
 e0 : Int
 e1 : Int
 e2 : Int
 deriving DecidableEq
def encArr3I16 (x : Arr3I16) : List D := [.int .i16 x.e0, .int .i16 x.e1, .int .i16 x.e2]
theorem ENMLInterpreterRelative : type_of% (@encArr3I16.eq_1) := @encArr3I16.eq_1
theorem EMLInterpreterRelative : type_of% (And.intro @SE <| And.intro @ENMLInterpreterRelative <| @ENMB) := And.intro @SE <| And.intro @ENMLInterpreterRelative <| @ENMB
theorem FMLInterpreterRelative : type_of% (And.intro @SF <| And.intro @ENMLInterpreterRelative <| @ENMB) := And.intro @SF <| And.intro @ENMLInterpreterRelative <| @ENMB
def l47_InterpreterRelative (a0 : (List Arr3I16)) (a1 : L47Setting) (a2 : Bool) : Option Bool := bindO (bindO (l47_awake ) fun (y1 : Bool) => if y1 = true then if (decide ((a0.length : Int) > 20)) = true then some true else if (decide ((a1.Table.Lengths.length : Int) > 20)) = true then some true else bindO (r45_Valid a1.Table) fun (y2 : Int) => if (y2 != 0) = true then some true else bindO (r47_InRange a1.From) fun (y3 : Bool) => some (!y3) else some true) fun (v1 : Bool) => if v1 = true then bindO (l47_awake ) fun (y4 : Bool) => some y4 else bindO (r45_Work a1.Table 54000 0 a1.From) fun (y5 : ApiPos × Int) => if (y5.2 != 0) = true then some true else bindO (if a2 = true then some 1000 else some 0) fun (v2 : Int) => bindO (l47_word 71 91000) fun (y6 : ApiWord) => bindO (l47_word 71 v2) fun (y7 : ApiWord) => bindO (l47_word 70 5000) fun (y8 : ApiWord) => bindO (l47_word 71 90000) fun (y9 : ApiWord) => bindO (l47_word 71 v2) fun (y10 : ApiWord) => bindO (l47_word 70 5000) fun (y11 : ApiWord) => bindO (guardO (okIdx a0) ( rangeX (fun (i1 : Nat) (e1 : Arr3I16) (v3 : (List ApiBlock) × (List ApiBlock) × ApiPos) => bindO (l47_plus v3.2.2 (ApiPos.mk (IntKind.i64.wrap e1.e0) (IntKind.i64.wrap e1.e1) (IntKind.i64.wrap e1.e2))) fun (y12 : ApiPos) => bindO (l47_word 88 (IntKind.i64.wrap e1.e0)) fun (y13 : ApiWord) => bindO (l47_word 89 (IntKind.i64.wrap e1.e1)) fun (y14 : ApiWord) => bindO (l47_word 90 (IntKind.i64.wrap e1.e2)) fun (y15 : ApiWord) => guardO (okLen (v3.1.length + 1)) ( bindO (l47_word 88 y12.X) fun (y16 : ApiWord) => bindO (l47_word 89 y12.Y) fun (y17 : ApiWord) => bindO (l47_word 90 y12.Z) fun (y18 : ApiWord) => guardO (okLen (v3.2.1.length + 1)) ( some (.go (v3.1 ++ [ApiBlock.mk false [y13, y14, y15] []], v3.2.1 ++ [ApiBlock.mk false [y16, y17, y18] []], y12))))) (fun (v3 : (List ApiBlock) × (List ApiBlock) × ApiPos) => some (v3.1, v3.2.1, v3.2.2)) a0 0 ([ApiBlock.mk false [y6, y7, y8] []], [ApiBlock.mk false [y9, y10, y11] []], y5.1))) fun (v4 : (List ApiBlock) × (List ApiBlock) × ApiPos) => bindO (l47_word 77 30000) fun (y19 : ApiWord) => guardO (okLen (v4.1.length + 1)) ( bindO (l47_theirs a1.Table) fun (y20 : TableTable) => bindO (inp_Blocks (v4.1 ++ [ApiBlock.mk false [y19] []]) y20 a1.From) fun (y21 : (List ApiMotion) × InterpreterAlarm) => guardO (okLen (v4.2.1.length + 1)) ( bindO (l47_theirs a1.Table) fun (y22 : TableTable) => bindO (inp_Blocks (v4.2.1 ++ [ApiBlock.mk false [y19] []]) y22 a1.From) fun (y23 : (List ApiMotion) × InterpreterAlarm) => bindO (if ((y21.2.Block == y23.2.Block) && (y21.2.Code == y23.2.Code)) = true then bindO (r47_Same y21.1 y23.1) fun (y24 : Bool) => some y24 else some false) fun (v5 : Bool) => some v5))
theorem l47_InterpreterRelative_spec {a0 : (List Arr3I16)} {a1 : L47Setting} {a2 : Bool} {y : Bool} (h : l47_InterpreterRelative a0 a1 a2 = some y) : Spec gP 3 [.d (.list (List.map encArr3I16 a0)), .agg [.d (.int .i64 a1.Table.Work.e0.X), .d (.int .i64 a1.Table.Work.e0.Y), .d (.int .i64 a1.Table.Work.e0.Z), .d (.int .i64 a1.Table.Work.e1.X), .d (.int .i64 a1.Table.Work.e1.Y), .d (.int .i64 a1.Table.Work.e1.Z), .d (.int .i64 a1.Table.Work.e2.X), .d (.int .i64 a1.Table.Work.e2.Y), .d (.int .i64 a1.Table.Work.e2.Z), .d (.int .i64 a1.Table.Work.e3.X), .d (.int .i64 a1.Table.Work.e3.Y), .d (.int .i64 a1.Table.Work.e3.Z), .d (.int .i64 a1.Table.Work.e4.X), .d (.int .i64 a1.Table.Work.e4.Y), .d (.int .i64 a1.Table.Work.e4.Z), .d (.int .i64 a1.Table.Work.e5.X), .d (.int .i64 a1.Table.Work.e5.Y), .d (.int .i64 a1.Table.Work.e5.Z), .d (.list (List.map encR45Length a1.Table.Lengths)), .d (.int .i64 a1.From.X), .d (.int .i64 a1.From.Y), .d (.int .i64 a1.From.Z)], .d (.bool a2)] (.d (.bool y)) := by
 refine spec_mir Tryd.func3 rfl (by kernel_rfl) (by kernel_rfl) (fun y : Bool => .d (.bool y)) ?_ h
 unfold l47_InterpreterRelative
 simp only [List.replicate, List.length, nS, nA, Tryd.ntmps3, SV]
 refine .sR fun e h=>?_
 simp only [seval,EMLInterpreterRelative]
 refine mU e (.seqK (.seqK (Mir.joinO (fun v1 : Bool=>([.d (.list (List.map encArr3I16 a0)),U,.d (.bool a2),U,.ptr 0 0,U,U,U,U,U,U,U,U,U,U,U,U,U,U,U,U,U,U,U,U,U,U,U,U,U,U,U,U,U,U,U,U,U,U,U,U,U,U,U,U,.d (.bool v1)] ++ us 111)) (fun v1=>⟨[[.d (.int .i64 a1.Table.Work.e0.X),.d (.int .i64 a1.Table.Work.e0.Y),.d (.int .i64 a1.Table.Work.e0.Z),.d (.int .i64 a1.Table.Work.e1.X),.d (.int .i64 a1.Table.Work.e1.Y),.d (.int .i64 a1.Table.Work.e1.Z),.d (.int .i64 a1.Table.Work.e2.X),.d (.int .i64 a1.Table.Work.e2.Y),.d (.int .i64 a1.Table.Work.e2.Z),.d (.int .i64 a1.Table.Work.e3.X),.d (.int .i64 a1.Table.Work.e3.Y),.d (.int .i64 a1.Table.Work.e3.Z),.d (.int .i64 a1.Table.Work.e4.X),.d (.int .i64 a1.Table.Work.e4.Y),.d (.int .i64 a1.Table.Work.e4.Z),.d (.int .i64 a1.Table.Work.e5.X),.d (.int .i64 a1.Table.Work.e5.Y),.d (.int .i64 a1.Table.Work.e5.Z),.d (.list (List.map encR45Length a1.Table.Lengths)),.d (.int .i64 a1.From.X),.d (.int .i64 a1.From.Y),.d (.int .i64 a1.From.Z)]],[]⟩) (fun _=>rfl) ?_ ?_))) h
 refine .bind fun y1 hy1=>.ite (fun hb2=>?_) (fun hb2=>?_)
 refine .ite (fun hb3=>?_) (fun hb3=>?_)
 refine .region fun e h=>?_
 simp only [seval,EMLInterpreterRelative,hb2,hb3]
 refine SpecS.by (l47_awake_spec hy1) (rfl) ?_
 simp only [seval,EMLInterpreterRelative,und_22,hb2,hb3]
 cases h
 simp only [seval,FMLInterpreterRelative,hb2,hb3]
 refine .ite (fun hb4=>?_) (fun hb4=>?_)
 refine .region fun e h=>?_
 simp only [seval,EMLInterpreterRelative,hb2,hb3,hb4]
 refine SpecS.by (l47_awake_spec hy1) (rfl) ?_
 simp only [seval,EMLInterpreterRelative,und_22,fld_30_0,sz_28,fld_28_1,sz_26,ag_26,und_26,hb2,hb3,hb4]
 cases h
 simp only [seval,FMLInterpreterRelative,hb2,hb3,hb4]
 refine .bind fun y2 hy5=>.ite (fun hb6=>?_) (fun hb6=>?_)
 refine .region fun e h=>?_
 simp only [seval,EMLInterpreterRelative,hb2,hb3,hb4,hb6]
 refine SpecS.by (l47_awake_spec hy1) (rfl) ?_
 simp only [seval,EMLInterpreterRelative,und_22,fld_30_0,sz_28,fld_28_1,sz_26,ag_26,und_26,ag_28,hb2,hb3,hb4,hb6]
 refine SpecS.by (r45_Valid_spec hy5) (by simp only [seval,FMLInterpreterRelative,hb2,hb3,hb4,hb6]) ?_
 simp only [seval,EMLInterpreterRelative,hb2,hb3,hb4,hb6]
 cases h
 simp only [seval,FMLInterpreterRelative,hb2,hb3,hb4,hb6]
 refine .bind fun y3 hy7=>.region fun e h=>?_
 simp only [seval,EMLInterpreterRelative,hb2,hb3,hb4,hb6]
 refine SpecS.by (l47_awake_spec hy1) (rfl) ?_
 simp only [seval,EMLInterpreterRelative,und_22,fld_30_0,sz_28,fld_28_1,sz_26,ag_26,und_26,ag_28,hb2,hb3,hb4,hb6]
 refine SpecS.by (r45_Valid_spec hy5) (by simp only [seval,FMLInterpreterRelative,hb2,hb3,hb4,hb6]) ?_
 simp only [seval,EMLInterpreterRelative,fld_30_1,sz_24,ag_24,hb2,hb3,hb4,hb6]
 refine SpecS.by (r47_InRange_spec hy7) (by simp only [seval,FMLInterpreterRelative,hb2,hb3,hb4,hb6]) ?_
 simp only [seval,EMLInterpreterRelative,hb2,hb3,hb4,hb6]
 cases h
 simp only [seval,FMLInterpreterRelative,hb2,hb3,hb4,hb6]
 refine .region fun e h=>?_
 simp only [seval,EMLInterpreterRelative,hb2]
 refine SpecS.by (l47_awake_spec hy1) (rfl) ?_
 simp only [seval,EMLInterpreterRelative,hb2]
 cases h
 simp only [seval,FMLInterpreterRelative,hb2]
 intro v1
 refine Mir.toK (.cond rfl (fun hb10=>?_) (fun hb10=>?_))
 refine .seqK (.bind fun y4 hy11=>.region fun e h=>?_)
 simp only [seval,EMLInterpreterRelative]
 refine SpecS.by (l47_awake_spec hy11) (rfl) ?_
 simp only [seval,EMLInterpreterRelative]
 refine mU e (.ret fun e h=>?_) h
 cases h
 simp only [seval,FMLInterpreterRelative,Tryd.results3]
 refine .skip (Mir.toK (.seqK (.bind fun y5 hy12=>.region fun e h=>?_)))
 simp only [seval,EMLInterpreterRelative,fld_30_0,sz_28,ag_28,fld_30_1,sz_24,ag_24]
 refine SpecS.by (r45_Work_spec hy12) (by simp only [seval,FMLInterpreterRelative]) ?_
 simp only [seval,EMLInterpreterRelative,zero_24,sz_24]
 refine mU e (.seqK (.sR fun e h=>?_)) h
 simp only [seval,EMLInterpreterRelative]
 refine mU e (.cond rfl (fun hb14=>?_) (fun hb14=>?_)) h
 refine .sR fun e h=>?_
 simp only [seval,EMLInterpreterRelative]
 refine mU e (.ret fun e h=>?_) h
 cases h
 simp only [seval,FMLInterpreterRelative,Tryd.results3]
 refine .skip (Mir.toK (.sR fun e h=>?_))
 simp only [seval,EMLInterpreterRelative]
 refine mU e (.seqK (.sR fun e h=>?_)) h
 simp only [seval,EMLInterpreterRelative]
 refine mU e (Mir.joinO (fun v2 : Int=>([.d (.list (List.map encArr3I16 a0)),U,U,U,.ptr 0 0,U,U,.ptr 1 0,U,.d (.int .i64 v2)] ++ us 147)) (fun v2=>⟨[[.d (.int .i64 a1.Table.Work.e0.X),.d (.int .i64 a1.Table.Work.e0.Y),.d (.int .i64 a1.Table.Work.e0.Z),.d (.int .i64 a1.Table.Work.e1.X),.d (.int .i64 a1.Table.Work.e1.Y),.d (.int .i64 a1.Table.Work.e1.Z),.d (.int .i64 a1.Table.Work.e2.X),.d (.int .i64 a1.Table.Work.e2.Y),.d (.int .i64 a1.Table.Work.e2.Z),.d (.int .i64 a1.Table.Work.e3.X),.d (.int .i64 a1.Table.Work.e3.Y),.d (.int .i64 a1.Table.Work.e3.Z),.d (.int .i64 a1.Table.Work.e4.X),.d (.int .i64 a1.Table.Work.e4.Y),.d (.int .i64 a1.Table.Work.e4.Z),.d (.int .i64 a1.Table.Work.e5.X),.d (.int .i64 a1.Table.Work.e5.Y),.d (.int .i64 a1.Table.Work.e5.Z),.d (.list (List.map encR45Length a1.Table.Lengths)),.d (.int .i64 a1.From.X),.d (.int .i64 a1.From.Y),.d (.int .i64 a1.From.Z)],[.d (.int .i64 y5.1.X),.d (.int .i64 y5.1.Y),.d (.int .i64 y5.1.Z)]],[]⟩) (fun _=>rfl) ?_ ?_) h
 refine .cond rfl (fun hb16=>?_) (fun hb16=>?_)
 refine .region fun e h=>?_
 simp only [seval,EMLInterpreterRelative]
 cases h
 simp only [seval,FMLInterpreterRelative,Tryd.results3]
 refine .skip fun e h=>?_
 cases h
 simp only [seval,FMLInterpreterRelative,Tryd.results3]
 intro v2
 refine Mir.toK (.seqK (.bind fun y6 hy17=>.bind fun y7 hy18=>.bind fun y8 hy19=>.regionW fun e h=>regW.alt 6 rfl ?_))
 simp only [seval,EMLInterpreterRelative,w_none,w_eq]
 refine SpecS.by (l47_word_spec hy17) (by simp only [seval,FMLInterpreterRelative]) ?_
 simp only [seval,EMLInterpreterRelative,w_none,w_eq]
 refine SpecS.by (l47_word_spec hy18) (by simp only [seval,FMLInterpreterRelative]) ?_
 simp only [seval,EMLInterpreterRelative,w_none,w_eq]
 refine SpecS.by (l47_word_spec hy19) (by simp only [seval,FMLInterpreterRelative]) ?_
 simp only [seval,EMLInterpreterRelative,w_none,w_eq,und_40,sz_38,zero_38,(oL 6),zero_42,pl_42]
 refine alt_litOwn (es := List.map encApiBlock [ApiBlock.mk false [y6,y7,y8] []]) app_43 (by simp only [seval,EMLInterpreterRelative,und_43,sz_42,zero_42,(oL 3)]) (by decide) (regW.of ?_)
 simp only [seval,EMLInterpreterRelative,w_none,w_eq,und_43,sz_42,zero_42,(oL 3)]
 refine mU e (.seqK (.bind fun y9 hy20=>.bind fun y10 hy21=>.bind fun y11 hy22=>.regionW fun e h=>regW.alt 6 rfl ?_)) h
 simp only [seval,EMLInterpreterRelative,w_none,w_eq]
 refine SpecS.by (l47_word_spec hy20) (by simp only [seval,FMLInterpreterRelative]) ?_
 simp only [seval,EMLInterpreterRelative,w_none,w_eq]
 refine SpecS.by (l47_word_spec hy21) (by simp only [seval,FMLInterpreterRelative]) ?_
 simp only [seval,EMLInterpreterRelative,w_none,w_eq]
 refine SpecS.by (l47_word_spec hy22) (by simp only [seval,FMLInterpreterRelative]) ?_
 simp only [seval,EMLInterpreterRelative,w_none,w_eq,und_40,sz_38,zero_38,(oL 6),zero_42,pl_42]
 refine alt_litOwn (es := List.map encApiBlock [ApiBlock.mk false [y9,y10,y11] []]) app_43 (by simp only [seval,EMLInterpreterRelative,und_43,sz_42,zero_42,(oL 3)]) (by decide) (regW.of ?_)
 simp only [seval,EMLInterpreterRelative,w_none,w_eq,und_43,sz_42,zero_42,(oL 3)]
 refine mU e (.seqK (.sR fun e h=>?_)) h
 simp only [seval,EMLInterpreterRelative,und_22]
 refine mU e (Mir.joinO (fun v4 : (List ApiBlock) × (List ApiBlock) × ApiPos=>([U,U,U,U,.ptr 0 0,U,U,U,U,U,.own 0 (List.map encApiBlock v4.1),.own 1 (List.map encApiBlock v4.2.1)] ++ us 145)) (fun v4=>⟨[[.d (.int .i64 a1.Table.Work.e0.X),.d (.int .i64 a1.Table.Work.e0.Y),.d (.int .i64 a1.Table.Work.e0.Z),.d (.int .i64 a1.Table.Work.e1.X),.d (.int .i64 a1.Table.Work.e1.Y),.d (.int .i64 a1.Table.Work.e1.Z),.d (.int .i64 a1.Table.Work.e2.X),.d (.int .i64 a1.Table.Work.e2.Y),.d (.int .i64 a1.Table.Work.e2.Z),.d (.int .i64 a1.Table.Work.e3.X),.d (.int .i64 a1.Table.Work.e3.Y),.d (.int .i64 a1.Table.Work.e3.Z),.d (.int .i64 a1.Table.Work.e4.X),.d (.int .i64 a1.Table.Work.e4.Y),.d (.int .i64 a1.Table.Work.e4.Z),.d (.int .i64 a1.Table.Work.e5.X),.d (.int .i64 a1.Table.Work.e5.Y),.d (.int .i64 a1.Table.Work.e5.Z),.d (.list (List.map encR45Length a1.Table.Lengths)),.d (.int .i64 a1.From.X),.d (.int .i64 a1.From.Y),.d (.int .i64 a1.From.Z)],[.d (.int .i64 v4.2.2.X),.d (.int .i64 v4.2.2.Y),.d (.int .i64 v4.2.2.Z)]],[(42,v4.1.length),(42,v4.2.1.length)]⟩) (fun _=>rfl) ?_ ?_) h
 refine .block (.guard fun q1=>Mir.range (fun (i1 : Nat) (v3 : (List ApiBlock) × (List ApiBlock) × ApiPos)=>([U,U,U,U,.ptr 0 0,U,U,.ptr 1 0,U,U,.own 0 (List.map encApiBlock v3.1),.own 1 (List.map encApiBlock v3.2.1),U,U,U,U,U,U,U,U,U,U,U,U,U,U,U,U,U,U,U,U,U,U,U,U,U,U,U,U,U,U,U,U,U,U,U,U,U,U,U,U,U,U,U,U,U,U,U,U,U,U,U,U,U,U,U,U,U,U,U,U,.d (.list (List.map encArr3I16 a0)),.d (.int .i64 (a0.length : Int)),.d (.int .i64 (i1 : Int))] ++ us 82)) (fun i1 v3=>⟨[[.d (.int .i64 a1.Table.Work.e0.X),.d (.int .i64 a1.Table.Work.e0.Y),.d (.int .i64 a1.Table.Work.e0.Z),.d (.int .i64 a1.Table.Work.e1.X),.d (.int .i64 a1.Table.Work.e1.Y),.d (.int .i64 a1.Table.Work.e1.Z),.d (.int .i64 a1.Table.Work.e2.X),.d (.int .i64 a1.Table.Work.e2.Y),.d (.int .i64 a1.Table.Work.e2.Z),.d (.int .i64 a1.Table.Work.e3.X),.d (.int .i64 a1.Table.Work.e3.Y),.d (.int .i64 a1.Table.Work.e3.Z),.d (.int .i64 a1.Table.Work.e4.X),.d (.int .i64 a1.Table.Work.e4.Y),.d (.int .i64 a1.Table.Work.e4.Z),.d (.int .i64 a1.Table.Work.e5.X),.d (.int .i64 a1.Table.Work.e5.Y),.d (.int .i64 a1.Table.Work.e5.Z),.d (.list (List.map encR45Length a1.Table.Lengths)),.d (.int .i64 a1.From.X),.d (.int .i64 a1.From.Y),.d (.int .i64 a1.From.Z)],[.d (.int .i64 v3.2.2.X),.d (.int .i64 v3.2.2.Y),.d (.int .i64 v3.2.2.Z)]],[(42,v3.1.length),(42,v3.2.1.length)]⟩) q1 (fun _ _=>rfl) (by simp only [seval,FMLInterpreterRelative,zNI]) (by simp only [seval,FMLInterpreterRelative,zNI]) ?_ ?_)
 intro i1 e1 v3 q2
 refine .sR fun e h=>?_
 simp only [seval,EMLInterpreterRelative,q2]
 refine mU e (.seqK (.condT rfl (.skip (Mir.toK (.seqK (.block (.sR fun e h=>?_))))))) h
 simp only [seval,EMLInterpreterRelative,und_22,sz_45,q2,Int.toNat_natCast,ag_45,zero_45]
 refine mU e (.sR fun e h=>?_) h
 simp only [seval,EMLInterpreterRelative,und_45,sz_44,ag_44,und_44,und_2,zero_24,pl_24,sz_24]
 refine mU e (.seqK (.bind fun y12 h1=>.region fun e h=>?_)) h
 simp only [seval,EMLInterpreterRelative,ag_24,sz_24]
 refine SpecS.by (l47_plus_spec h1) (by simp only [seval,FMLInterpreterRelative]) ?_
 simp only [seval,EMLInterpreterRelative,sz_24]
 refine mU e (.seqK (.bind fun y13 h2=>.bind fun y14 h3=>.bind fun y15 h4=>.guard fun q3=>.regionD [] (by kernel_rfl) fun e h=>?_)) h
 simp only [seval,EMLInterpreterRelative,SB,fld_24_0,sz_2,ag_2]
 refine Spec.by (l47_word_spec h2) (by simp only [seval,FMLInterpreterRelative]) ?_
 simp only [seval,EMLInterpreterRelative,SB,fld_24_1,sz_2,ag_2]
 refine Spec.by (l47_word_spec h3) (by simp only [seval,FMLInterpreterRelative]) ?_
 simp only [seval,EMLInterpreterRelative,SB,fld_24_2,sz_2,ag_2]
 refine Spec.by (l47_word_spec h4) (by simp only [seval,FMLInterpreterRelative]) ?_
 simp only [seval,EMLInterpreterRelative,SB,und_40,sz_38,zero_38,(oL 6),zero_42,pl_42,und_43,sz_42,(oL 3),app_43,al_ApiBlock,q3]
 refine mU e (.bind fun y16 h5=>.bind fun y17 h6=>.bind fun y18 h7=>.guard fun q4=>.regionD [] (by kernel_rfl) fun e h=>?_) h
 simp only [seval,EMLInterpreterRelative,SB,fld_24_0,sz_2,ag_2]
 refine Spec.by (l47_word_spec h5) (by simp only [seval,FMLInterpreterRelative]) ?_
 simp only [seval,EMLInterpreterRelative,SB,fld_24_1,sz_2,ag_2]
 refine Spec.by (l47_word_spec h6) (by simp only [seval,FMLInterpreterRelative]) ?_
 simp only [seval,EMLInterpreterRelative,SB,fld_24_2,sz_2,ag_2]
 refine Spec.by (l47_word_spec h7) (by simp only [seval,FMLInterpreterRelative]) ?_
 simp only [seval,EMLInterpreterRelative,SB,und_40,sz_38,zero_38,(oL 6),zero_42,pl_42,und_43,sz_42,(oL 3),app_43,al_ApiBlock,q4]
 refine mU e (.region fun e h=>?_) h
 simp only [seval,EMLInterpreterRelative]
 cases h
 simp only [seval,FMLInterpreterRelative,Tryd.results3,q2]
 intro v3 q5
 refine .sR fun e h=>?_
 simp only [seval,EMLInterpreterRelative,q5]
 refine mU e (.seqK (.condF rfl (.exit fun e h=>?_))) h
 cases h
 simp only [seval,FMLInterpreterRelative,Tryd.results3]
 intro v4
 refine Mir.toK (.seqK (.bind fun y19 h8=>.region fun e h=>?_))
 simp only [seval,EMLInterpreterRelative]
 refine SpecS.by (l47_word_spec h8) (by simp only [seval,FMLInterpreterRelative]) ?_
 simp only [seval,EMLInterpreterRelative,und_40,sz_38,zero_38,(oL 2),zero_42,pl_42,sz_42]
 refine mU e (.seqK (.guard fun q6=>.bind fun y20 h9=>.bind fun y21 h10=>.regionD [] (by kernel_rfl) fun e h=>?_)) h
 simp only [seval,EMLInterpreterRelative,SB,ag_42,sz_42,und_43,zero_42,(oL 3),app_43,al_ApiBlock,q6,fld_30_0,sz_28,ag_28]
 refine Spec.by (l47_theirs_spec h9) (by simp only [seval,FMLInterpreterRelative]) ?_
 simp only [seval,EMLInterpreterRelative,SB,fld_30_1,sz_24,ag_24]
 refine Spec.by (inp_Blocks_spec h10) (by simp only [seval,FMLInterpreterRelative]) ?_
 simp only [seval,EMLInterpreterRelative,SB,zero_49,sz_49]
 refine mU e (.seqK (.guard fun q7=>.bind fun y22 h11=>.bind fun y23 h12=>.regionD [] (by kernel_rfl) fun e h=>?_)) h
 simp only [seval,EMLInterpreterRelative,SB,ag_42,sz_42,und_43,zero_42,(oL 3),app_43,al_ApiBlock,q7,fld_30_0,sz_28,ag_28]
 refine Spec.by (l47_theirs_spec h11) (by simp only [seval,FMLInterpreterRelative]) ?_
 simp only [seval,EMLInterpreterRelative,SB,fld_30_1,sz_24,ag_24]
 refine Spec.by (inp_Blocks_spec h12) (by simp only [seval,FMLInterpreterRelative]) ?_
 simp only [seval,EMLInterpreterRelative,SB,zero_49,sz_49]
 refine mU e (.seqK (Mir.joinO (fun v5 : Bool=>([U,U,U,U,U,U,.d (.bool v5)] ++ us 150)) (fun v5=>⟨[[.d (.int .i64 a1.Table.Work.e0.X),.d (.int .i64 a1.Table.Work.e0.Y),.d (.int .i64 a1.Table.Work.e0.Z),.d (.int .i64 a1.Table.Work.e1.X),.d (.int .i64 a1.Table.Work.e1.Y),.d (.int .i64 a1.Table.Work.e1.Z),.d (.int .i64 a1.Table.Work.e2.X),.d (.int .i64 a1.Table.Work.e2.Y),.d (.int .i64 a1.Table.Work.e2.Z),.d (.int .i64 a1.Table.Work.e3.X),.d (.int .i64 a1.Table.Work.e3.Y),.d (.int .i64 a1.Table.Work.e3.Z),.d (.int .i64 a1.Table.Work.e4.X),.d (.int .i64 a1.Table.Work.e4.Y),.d (.int .i64 a1.Table.Work.e4.Z),.d (.int .i64 a1.Table.Work.e5.X),.d (.int .i64 a1.Table.Work.e5.Y),.d (.int .i64 a1.Table.Work.e5.Z),.d (.list (List.map encR45Length a1.Table.Lengths)),.d (.int .i64 a1.From.X),.d (.int .i64 a1.From.Y),.d (.int .i64 a1.From.Z)],[.d (.int .i64 v4.2.2.X),.d (.int .i64 v4.2.2.Y),.d (.int .i64 v4.2.2.Z)],[.d (.bool false),.full (List.map encApiWord [y19]),.d (.str [])],[.d (.int .i64 y21.2.Block),.d (.int .i64 y21.2.Code)],[.d (.int .i64 y23.2.Block),.d (.int .i64 y23.2.Code)]],[(42,v4.1.length + 1),(42,v4.2.1.length + 1)]⟩) (fun _=>rfl) ?_ ?_)) h
 refine .ite (fun h13=>?_) (fun h13=>?_)
 refine .bind fun y24 h14=>.region fun e h=>?_
 simp only [seval,EMLInterpreterRelative,ag_49,sz_49,gE_49,h13]
 refine SpecS.by (r47_Same_spec h14) (by simp only [seval,FMLInterpreterRelative,h13]) ?_
 simp only [seval,EMLInterpreterRelative,h13]
 cases h
 simp only [seval,FMLInterpreterRelative,h13]
 refine .region fun e h=>?_
 simp only [seval,EMLInterpreterRelative,ag_49,sz_49,gE_49,h13]
 cases h
 simp only [seval,FMLInterpreterRelative,h13]
 intro v5
 refine Mir.toK (.ret fun e h=>?_)
 cases h
 simp only [seval,FMLInterpreterRelative,Tryd.results3]
theorem co_44 : Tryd.prog.cellsOf 44 = 1 := by kernel_rfl
theorem opn_44 : Opn Tryd.prog 44 (eInt .i16) (inInt .i16) := Opn.int Tryd.underlying44
def inArr3I16 (x : Arr3I16) : Prop := (inInt .i16) x.e0 ∧ (inInt .i16) x.e1 ∧ (inInt .i16) x.e2
theorem co_45 : Tryd.prog.cellsOf 45 = 3 := by kernel_rfl
theorem opn_45 : Opn Tryd.prog 45 encArr3I16 inArr3I16 := by
 intro w H enc fuel cs x h
 obtain ⟨xs, n, _, _, hl, hxl, hf⟩ := DataW.trod_array Tryd.underlying45 h
 obtain ⟨s0, r0, o0⟩ := Opn.elem hf 0 1 co_44 (by omega) hxl opn_44
 obtain ⟨s1, r1, o1⟩ := Opn.elem hf 1 1 co_44 (by omega) hxl opn_44
 obtain ⟨s2, r2, o2⟩ := Opn.elem hf 2 1 co_44 (by omega) hxl opn_44
 refine ⟨⟨s0, s1, s2⟩, ?_, o0, o1, o2⟩
 exact (RelC.cut 0 1 r0 rfl (RelC.cut 1 1 r1 rfl (RelC.cut 2 1 r2 rfl (RelC.nil (n := 3) (by rw [hl, co_45]; exact Nat.le_refl _)))))
theorem opn_22 : Opn Tryd.prog 22 (eList encArr3I16) (inList inArr3I16) := Opn.slice Tryd.underlying22 opn_45 (fun _ => (rfl : _ = 3).trans co_45.symm) (by rw [co_45]; decide)
theorem co_2 : Tryd.prog.cellsOf 2 = 1 := by kernel_rfl
theorem opn_2 : Opn Tryd.prog 2 (eInt .i64) (inInt .i64) := Opn.int Tryd.underlying2
def inApiPos (x : ApiPos) : Prop := (inInt .i64) x.X ∧ (inInt .i64) x.Y ∧ (inInt .i64) x.Z
theorem co_24 : Tryd.prog.cellsOf 24 = 3 := by kernel_rfl
theorem opn_24 : Opn Tryd.prog 24 encApiPos inApiPos := by
 intro w H enc fuel cs x h
 obtain ⟨xs, n, _, _, hl, hxl, hf⟩ := DataW.trod_struct Tryd.underlying24 h
 have hxl' : xs.length = 3 := hxl
 obtain ⟨s0, r0, o0⟩ := Opn.field hf 0 2 0 1 rfl co_2 (by omega) opn_2
 obtain ⟨s1, r1, o1⟩ := Opn.field hf 1 2 1 1 rfl co_2 (by omega) opn_2
 obtain ⟨s2, r2, o2⟩ := Opn.field hf 2 2 2 1 rfl co_2 (by omega) opn_2
 refine ⟨⟨s0, s1, s2⟩, ?_, o0, o1, o2⟩
 exact (RelC.cut 0 1 r0 rfl (RelC.cut 1 1 r1 rfl (RelC.cut 2 1 r2 rfl (RelC.nil (n := 3) (by rw [hl, co_24]; exact Nat.le_refl _)))))
def inArr6ApiPos (x : Arr6ApiPos) : Prop := inApiPos x.e0 ∧ inApiPos x.e1 ∧ inApiPos x.e2 ∧ inApiPos x.e3 ∧ inApiPos x.e4 ∧ inApiPos x.e5
theorem co_25 : Tryd.prog.cellsOf 25 = 18 := by kernel_rfl
theorem opn_25 : Opn Tryd.prog 25 encArr6ApiPos inArr6ApiPos := by
 intro w H enc fuel cs x h
 obtain ⟨xs, n, _, _, hl, hxl, hf⟩ := DataW.trod_array Tryd.underlying25 h
 obtain ⟨s0, r0, o0⟩ := Opn.elem hf 0 3 co_24 (by omega) hxl opn_24
 obtain ⟨s1, r1, o1⟩ := Opn.elem hf 1 3 co_24 (by omega) hxl opn_24
 obtain ⟨s2, r2, o2⟩ := Opn.elem hf 2 3 co_24 (by omega) hxl opn_24
 obtain ⟨s3, r3, o3⟩ := Opn.elem hf 3 3 co_24 (by omega) hxl opn_24
 obtain ⟨s4, r4, o4⟩ := Opn.elem hf 4 3 co_24 (by omega) hxl opn_24
 obtain ⟨s5, r5, o5⟩ := Opn.elem hf 5 3 co_24 (by omega) hxl opn_24
 refine ⟨⟨s0, s1, s2, s3, s4, s5⟩, ?_, o0, o1, o2, o3, o4, o5⟩
 exact (RelC.cut 0 3 r0 rfl (RelC.cut 3 3 r1 rfl (RelC.cut 6 3 r2 rfl (RelC.cut 9 3 r3 rfl (RelC.cut 12 3 r4 rfl (RelC.cut 15 3 r5 rfl (RelC.nil (n := 18) (by rw [hl, co_25]; exact Nat.le_refl _))))))))
def inR45Length (x : R45Length) : Prop := (inInt .i64) x.Number ∧ (inInt .i64) x.Length
theorem co_73 : Tryd.prog.cellsOf 73 = 2 := by kernel_rfl
theorem opn_73 : Opn Tryd.prog 73 encR45Length inR45Length := by
 intro w H enc fuel cs x h
 obtain ⟨xs, n, _, _, hl, hxl, hf⟩ := DataW.trod_struct Tryd.underlying73 h
 have hxl' : xs.length = 2 := hxl
 obtain ⟨s0, r0, o0⟩ := Opn.field hf 0 2 0 1 rfl co_2 (by omega) opn_2
 obtain ⟨s1, r1, o1⟩ := Opn.field hf 1 2 1 1 rfl co_2 (by omega) opn_2
 refine ⟨⟨s0, s1⟩, ?_, o0, o1⟩
 exact (RelC.cut 0 1 r0 rfl (RelC.cut 1 1 r1 rfl (RelC.nil (n := 2) (by rw [hl, co_73]; exact Nat.le_refl _))))
theorem co_26 : Tryd.prog.cellsOf 26 = 1 := by kernel_rfl
theorem opn_26 : Opn Tryd.prog 26 (eList encR45Length) (inList inR45Length) := Opn.slice Tryd.underlying26 opn_73 (fun _ => (rfl : _ = 2).trans co_73.symm) (by rw [co_73]; decide)
def inR45Table (x : R45Table) : Prop := inArr6ApiPos x.Work ∧ (inList inR45Length) x.Lengths
theorem co_28 : Tryd.prog.cellsOf 28 = 19 := by kernel_rfl
theorem opn_28 : Opn Tryd.prog 28 encR45Table inR45Table := by
 intro w H enc fuel cs x h
 obtain ⟨xs, n, _, _, hl, hxl, hf⟩ := DataW.trod_struct Tryd.underlying28 h
 have hxl' : xs.length = 2 := hxl
 obtain ⟨s0, r0, o0⟩ := Opn.field hf 0 25 0 18 rfl co_25 (by omega) opn_25
 obtain ⟨s1, r1, o1⟩ := Opn.field hf 1 26 18 1 rfl co_26 (by omega) opn_26
 refine ⟨⟨s0, s1⟩, ?_, o0, o1⟩
 exact (RelC.cut 0 18 r0 rfl (RelC.cut 18 1 r1 rfl (RelC.nil (n := 19) (by rw [hl, co_28]; exact Nat.le_refl _))))
def inL47Setting (x : L47Setting) : Prop := inR45Table x.Table ∧ inApiPos x.From
theorem co_30 : Tryd.prog.cellsOf 30 = 22 := by kernel_rfl
theorem opn_30 : Opn Tryd.prog 30 encL47Setting inL47Setting := by
 intro w H enc fuel cs x h
 obtain ⟨xs, n, _, _, hl, hxl, hf⟩ := DataW.trod_struct Tryd.underlying30 h
 have hxl' : xs.length = 2 := hxl
 obtain ⟨s0, r0, o0⟩ := Opn.field hf 0 28 0 19 rfl co_28 (by omega) opn_28
 obtain ⟨s1, r1, o1⟩ := Opn.field hf 1 24 19 3 rfl co_24 (by omega) opn_24
 refine ⟨⟨s0, s1⟩, ?_, o0, o1⟩
 exact (RelC.cut 0 19 r0 rfl (RelC.cut 19 3 r1 rfl (RelC.nil (n := 22) (by rw [hl, co_30]; exact Nat.le_refl _))))
theorem opn_4 : Opn Tryd.prog 4 eBool inBool := Opn.bool Tryd.underlying4
end Go.Proofs.YtopjpenbieojmaaDoor
