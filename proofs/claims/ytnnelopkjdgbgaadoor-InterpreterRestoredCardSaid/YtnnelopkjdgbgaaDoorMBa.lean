import Derived.Test.YtnnelopkjdgbgaaDoorGx
import Derived.Test.YtnnelopkjdgbgaaDoorTy
import Derived.Test.YtnnelopkjdgbgaaDoorGz
import Derived.Test.YtnnelopkjdgbgaaDoorSzz
namespace Go.Proofs.YtnnelopkjdgbgaaDoor
open Go.RowKit
open Nat renaming reduceAdd → nA,reduceSub → nS,reduceMul → nM,reduceEqDiff → nE,reduceLeDiff → nL,reduceLT → nT,reduceBEq → nB
open Int renaming reduceLT → iT,reduceToNat → iN,reduceEq → iE
set_option linter.unusedVariables false
set_option linter.unusedSimpArgs false
set_option maxRecDepth 100000
set_option maxHeartbeats 8000000
structure ApiWord where
 Letter : Int
 Value : Int
 deriving DecidableEq
def encApiWord (x : ApiWord) : List D := [.int .u8 x.Letter,.int .i64 x.Value]
theorem al_ApiWord {l : List ApiWord} : (List.map encApiWord l).all (fun x=>x.length == 2) = true := by simp [List.all_eq_true,encApiWord]
structure ApiBlock where
 Skip : Bool
 Words : (List ApiWord)
 Comment : (List UInt8)
 deriving DecidableEq
def encApiBlock (x : ApiBlock) : List D := [.bool x.Skip,.list (List.map encApiWord x.Words),.str x.Comment]
theorem al_ApiBlock {l : List ApiBlock} : (List.map encApiBlock l).all (fun x=>x.length == 3) = true := by simp [List.all_eq_true,encApiBlock]
structure R45Length where
 Number : Int
 Length : Int
 deriving DecidableEq
def encR45Length (x : R45Length) : List D := [.int .i64 x.Number,.int .i64 x.Length]
structure ApiPos where
 X : Int
 Y : Int
 Z : Int
 deriving DecidableEq
def encApiPos (x : ApiPos) : List D := [.int .i64 x.X,.int .i64 x.Y,.int .i64 x.Z]
theorem al_ApiPos {l : List ApiPos} : (List.map encApiPos l).all (fun x=>x.length == 3) = true := by simp [List.all_eq_true,encApiPos]
structure Arr6ApiPos where
 e0 : ApiPos
 e1 : ApiPos
 e2 : ApiPos
 e3 : ApiPos
 e4 : ApiPos
 e5 : ApiPos
 deriving DecidableEq
def encArr6ApiPos (x : Arr6ApiPos) : List D := [.int .i64 x.e0.X,.int .i64 x.e0.Y,.int .i64 x.e0.Z,.int .i64 x.e1.X,.int .i64 x.e1.Y,.int .i64 x.e1.Z,.int .i64 x.e2.X,.int .i64 x.e2.Y,.int .i64 x.e2.Z,.int .i64 x.e3.X,.int .i64 x.e3.Y,.int .i64 x.e3.Z,.int .i64 x.e4.X,.int .i64 x.e4.Y,.int .i64 x.e4.Z,.int .i64 x.e5.X,.int .i64 x.e5.Y,.int .i64 x.e5.Z]
structure R45Table where
 Work : Arr6ApiPos
 Lengths : (List R45Length)
 deriving DecidableEq
def encR45Table (x : R45Table) : List D := [.int .i64 x.Work.e0.X,.int .i64 x.Work.e0.Y,.int .i64 x.Work.e0.Z,.int .i64 x.Work.e1.X,.int .i64 x.Work.e1.Y,.int .i64 x.Work.e1.Z,.int .i64 x.Work.e2.X,.int .i64 x.Work.e2.Y,.int .i64 x.Work.e2.Z,.int .i64 x.Work.e3.X,.int .i64 x.Work.e3.Y,.int .i64 x.Work.e3.Z,.int .i64 x.Work.e4.X,.int .i64 x.Work.e4.Y,.int .i64 x.Work.e4.Z,.int .i64 x.Work.e5.X,.int .i64 x.Work.e5.Y,.int .i64 x.Work.e5.Z,.list (List.map encR45Length x.Lengths)]
structure TableLength where
 Number : Int
 Length : Int
 deriving DecidableEq
def encTableLength (x : TableLength) : List D := [.int .i64 x.Number,.int .i64 x.Length]
theorem al_TableLength {l : List TableLength} : (List.map encTableLength l).all (fun x=>x.length == 2) = true := by simp [List.all_eq_true,encTableLength]
structure TableTable where
 Work : Arr6ApiPos
 Lengths : (List TableLength)
 deriving DecidableEq
def encTableTable (x : TableTable) : List D := [.int .i64 x.Work.e0.X,.int .i64 x.Work.e0.Y,.int .i64 x.Work.e0.Z,.int .i64 x.Work.e1.X,.int .i64 x.Work.e1.Y,.int .i64 x.Work.e1.Z,.int .i64 x.Work.e2.X,.int .i64 x.Work.e2.Y,.int .i64 x.Work.e2.Z,.int .i64 x.Work.e3.X,.int .i64 x.Work.e3.Y,.int .i64 x.Work.e3.Z,.int .i64 x.Work.e4.X,.int .i64 x.Work.e4.Y,.int .i64 x.Work.e4.Z,.int .i64 x.Work.e5.X,.int .i64 x.Work.e5.Y,.int .i64 x.Work.e5.Z,.list (List.map encTableLength x.Lengths)]
structure InterpreterAlarm where
 Block : Int
 Code : Int
 deriving DecidableEq
def encInterpreterAlarm (x : InterpreterAlarm) : List D := [.int .i64 x.Block,.int .i64 x.Code]
structure ModalState where
 Motion : Int
 Distance : Int
 Work : Int
 Length : Int
 Return : Int
 Feed : Int
 Tool : Int
 Offset : Int
 deriving DecidableEq
def encModalState (x : ModalState) : List D := [.int .i64 x.Motion,.int .i64 x.Distance,.int .i64 x.Work,.int .i64 x.Length,.int .i64 x.Return,.int .i64 x.Feed,.int .i64 x.Tool,.int .i64 x.Offset]
structure CycleCycle where
 Code : Int
 R : Int
 Z : Int
 Q : Int
 Rate : Int
 Initial : Int
 High : Bool
 deriving DecidableEq
def encCycleCycle (x : CycleCycle) : List D := [.int .i64 x.Code,.int .i64 x.R,.int .i64 x.Z,.int .i64 x.Q,.int .i64 x.Rate,.int .i64 x.Initial,.bool x.High]
structure InterpreterReached where
 at_ : ApiPos
 rate : Int
 deriving DecidableEq
def encInterpreterReached (x : InterpreterReached) : List D := [.int .i64 x.at_.X,.int .i64 x.at_.Y,.int .i64 x.at_.Z,.int .i64 x.rate]
theorem al_InterpreterReached {l : List InterpreterReached} : (List.map encInterpreterReached l).all (fun x=>x.length == 4) = true := by simp [List.all_eq_true,encInterpreterReached]
structure ApiGrid2 where
 X : Int
 Y : Int
 deriving DecidableEq
def encApiGrid2 (x : ApiGrid2) : List D := [.int .i64 x.X,.int .i64 x.Y]
structure ApiMove where
 Kind : Int
 To : ApiPos
 Center : ApiGrid2
 Rate : Int
 deriving DecidableEq
def encApiMove (x : ApiMove) : List D := [.int .i64 x.Kind,.int .i64 x.To.X,.int .i64 x.To.Y,.int .i64 x.To.Z,.int .i64 x.Center.X,.int .i64 x.Center.Y,.int .i64 x.Rate]
theorem al_ApiMove {l : List ApiMove} : (List.map encApiMove l).all (fun x=>x.length == 7) = true := by simp [List.all_eq_true,encApiMove]
structure ApiMotion where
 From : ApiPos
 To : ApiPos
 Rate : Int
 Tool : Int
 Block : Int
 deriving DecidableEq
def encApiMotion (x : ApiMotion) : List D := [.int .i64 x.From.X,.int .i64 x.From.Y,.int .i64 x.From.Z,.int .i64 x.To.X,.int .i64 x.To.Y,.int .i64 x.To.Z,.int .i64 x.Rate,.int .i64 x.Tool,.int .i64 x.Block]
theorem al_ApiMotion {l : List ApiMotion} : (List.map encApiMotion l).all (fun x=>x.length == 9) = true := by simp [List.all_eq_true,encApiMotion]
theorem ENMB : type_of% (And.intro @encApiWord.eq_1 <| And.intro @encApiBlock.eq_1 <| And.intro @encR45Length.eq_1 <| And.intro @encApiPos.eq_1 <| And.intro @encArr6ApiPos.eq_1 <| And.intro @encR45Table.eq_1 <| And.intro @encTableLength.eq_1 <| And.intro @encTableTable.eq_1 <| And.intro @encInterpreterAlarm.eq_1 <| And.intro @encModalState.eq_1 <| And.intro @encCycleCycle.eq_1 <| And.intro @encInterpreterReached.eq_1 <| And.intro @encApiGrid2.eq_1 <| And.intro @encApiMove.eq_1 <| @encApiMotion.eq_1) := And.intro @encApiWord.eq_1 <| And.intro @encApiBlock.eq_1 <| And.intro @encR45Length.eq_1 <| And.intro @encApiPos.eq_1 <| And.intro @encArr6ApiPos.eq_1 <| And.intro @encR45Table.eq_1 <| And.intro @encTableLength.eq_1 <| And.intro @encTableTable.eq_1 <| And.intro @encInterpreterAlarm.eq_1 <| And.intro @encModalState.eq_1 <| And.intro @encCycleCycle.eq_1 <| And.intro @encInterpreterReached.eq_1 <| And.intro @encApiGrid2.eq_1 <| And.intro @encApiMove.eq_1 <| @encApiMotion.eq_1
theorem EMB : type_of% (And.intro @SE <| @ENMB) := And.intro @SE <| @ENMB
theorem FMB : type_of% (And.intro @SF <| @ENMB) := And.intro @SF <| @ENMB
def l47_word (a0 : Int) (a1 : Int) : Option ApiWord := some (ApiWord.mk a0 a1)
theorem l47_word_spec {a0 : Int} {a1 : Int} {y : ApiWord} (h : l47_word a0 a1 = some y) : Spec gP 24 [.d (.int .u8 a0),.d (.int .i64 a1)] (.agg [.d (.int .u8 y.Letter),.d (.int .i64 y.Value)]) := by
 refine spec_mir Tryd.func24 rfl (by kernel_rfl) (by kernel_rfl) (fun y : ApiWord=>.agg [.d (.int .u8 y.Letter),.d (.int .i64 y.Value)]) ?_ h
 unfold l47_word
 simp only [List.replicate,List.length,nS,nA,Tryd.ntmps24,SV]
 refine .sR fun e h=>?_
 simp only [seval,EMB,zero_77]
 refine mU e (.sR fun e h=>?_) h
 simp only [seval,EMB,zero_77,pl_77,sz_77]
 refine mU e (.ret fun e h=>?_) h
 cases h
 simp only [seval,FMB,Tryd.results24,ag_77,sz_77]
def l47_program (a0 : Bool) : Option (List ApiBlock) := bindO (l47_word 71 1000) fun (y1 : ApiWord)=>bindO (l47_word 88 1000) fun (y2 : ApiWord)=>bindO (if a0 = true then bindO (l47_word 70 10000) fun (y3 : ApiWord)=>some [y1,y2,y3] else some [y1,y2]) fun (v1 : (List ApiWord))=>bindO (l47_word 71 55000) fun (y4 : ApiWord)=>bindO (l47_word 71 43000) fun (y5 : ApiWord)=>bindO (l47_word 72 3000) fun (y6 : ApiWord)=>bindO (l47_word 84 3000) fun (y7 : ApiWord)=>bindO (l47_word 71 0) fun (y8 : ApiWord)=>bindO (l47_word 88 0) fun (y9 : ApiWord)=>bindO (l47_word 89 0) fun (y10 : ApiWord)=>bindO (l47_word 90 0) fun (y11 : ApiWord)=>bindO (l47_word 77 30000) fun (y12 : ApiWord)=>some [ApiBlock.mk false [y4,y5,y6,y7] [],ApiBlock.mk false [y8,y9,y10,y11] [],ApiBlock.mk false v1 [],ApiBlock.mk false [y12] []]
theorem l47_program_spec {a0 : Bool} {y : (List ApiBlock)} (h : l47_program a0 = some y) : Spec gP 12 [.d (.bool a0)] (.d (.list (List.map encApiBlock y))) := by
 refine spec_mir Tryd.func12 rfl (by kernel_rfl) (by kernel_rfl) (fun y : (List ApiBlock)=>.d (.list (List.map encApiBlock y))) ?_ h
 unfold l47_program
 simp only [List.replicate,List.length,nS,nA,Tryd.ntmps12,SV]
 refine .sR fun e h=>?_
 simp only [seval,EMB]
 refine mU e (.seqK (.bind fun y1 hy1=>.bind fun y2 hy2=>.region fun e h=>?_)) h
 simp only [seval,EMB]
 refine SpecS.by (l47_word_spec hy1) (by simp only [seval,FMB]) ?_
 simp only [seval,EMB]
 refine SpecS.by (l47_word_spec hy2) (by simp only [seval,FMB]) ?_
 simp only [seval,EMB,und_39,sz_77,zero_77,(oL 4),zero_41,pl_41,sz_41]
 refine mU e (.seqK (.sR fun e h=>?_)) h
 simp only [seval,EMB]
 refine mU e (Mir.joinO (fun v1 : (List ApiWord)=>([U,U,U,.ptr 0 0] ++ us 28)) (fun v1=>⟨[[.d (.bool false),.d (.list (List.map encApiWord v1)),.d (.str [])]],[]⟩) (fun _=>rfl) ?_ ?_) h
 refine .cond rfl (fun hb5=>?_) (fun hb5=>?_)
 refine .bind fun y3 hy6=>.regionD [] (by kernel_rfl) fun e h=>?_
 simp only [seval,EMB,SB,fld_41_1,sz_39,ag_39]
 refine Spec.by (l47_word_spec hy6) (by simp only [seval,FMB]) ?_
 simp only [seval,EMB,SB,und_39,sz_77,zero_77,(oL 2),app_39,al_ApiWord,(oL 3),fld_41_1,sz_39]
 cases h
 simp only [seval,FMB,Tryd.results12]
 refine .skip fun e h=>?_
 cases h
 simp only [seval,FMB,Tryd.results12]
 intro v1
 refine Mir.toK (.seqK (.bind fun y4 hy7=>.bind fun y5 hy8=>.bind fun y6 hy9=>.bind fun y7 hy10=>.bind fun y8 hy11=>.bind fun y9 hy12=>.bind fun y10 hy13=>.bind fun y11 hy14=>.bind fun y12 hy15=>.regionD [] (by kernel_rfl) fun e h=>?_))
 simp only [seval,EMB,SB]
 refine Spec.by (l47_word_spec hy7) (by simp only [seval,FMB]) ?_
 simp only [seval,EMB,SB]
 refine Spec.by (l47_word_spec hy8) (by simp only [seval,FMB]) ?_
 simp only [seval,EMB,SB]
 refine Spec.by (l47_word_spec hy9) (by simp only [seval,FMB]) ?_
 simp only [seval,EMB,SB]
 refine Spec.by (l47_word_spec hy10) (by simp only [seval,FMB]) ?_
 simp only [seval,EMB,SB,und_39,sz_77,zero_77,(oL 8),zero_41,pl_41]
 refine Spec.by (l47_word_spec hy11) (by simp only [seval,FMB]) ?_
 simp only [seval,EMB,SB]
 refine Spec.by (l47_word_spec hy12) (by simp only [seval,FMB]) ?_
 simp only [seval,EMB,SB]
 refine Spec.by (l47_word_spec hy13) (by simp only [seval,FMB]) ?_
 simp only [seval,EMB,SB]
 refine Spec.by (l47_word_spec hy14) (by simp only [seval,FMB]) ?_
 simp only [seval,EMB,SB,und_39,sz_77,zero_77,(oL 8),zero_41,pl_41,ag_41,sz_41]
 refine Spec.by (l47_word_spec hy15) (by simp only [seval,FMB]) ?_
 simp only [seval,EMB,SB,und_39,sz_77,zero_77,(oL 2),zero_41,pl_41,und_22,sz_41,(oL 12)]
 refine mU e (.ret fun e h=>?_) h
 cases h
 simp only [seval,FMB,Tryd.results12]
def r47_Table  : Option R45Table := some (R45Table.mk (Arr6ApiPos.mk (ApiPos.mk 0 0 0) (ApiPos.mk 1000 2000 (-500)) (ApiPos.mk 0 0 0) (ApiPos.mk 0 0 0) (ApiPos.mk 0 0 0) (ApiPos.mk 0 0 0)) [R45Length.mk 3 75000])
theorem r47_Table_spec  {y : R45Table} (h : r47_Table = some y) : Spec gP 13 [] (.agg [.d (.int .i64 y.Work.e0.X),.d (.int .i64 y.Work.e0.Y),.d (.int .i64 y.Work.e0.Z),.d (.int .i64 y.Work.e1.X),.d (.int .i64 y.Work.e1.Y),.d (.int .i64 y.Work.e1.Z),.d (.int .i64 y.Work.e2.X),.d (.int .i64 y.Work.e2.Y),.d (.int .i64 y.Work.e2.Z),.d (.int .i64 y.Work.e3.X),.d (.int .i64 y.Work.e3.Y),.d (.int .i64 y.Work.e3.Z),.d (.int .i64 y.Work.e4.X),.d (.int .i64 y.Work.e4.Y),.d (.int .i64 y.Work.e4.Z),.d (.int .i64 y.Work.e5.X),.d (.int .i64 y.Work.e5.Y),.d (.int .i64 y.Work.e5.Z),.d (.list (List.map encR45Length y.Lengths))]) := by
 refine spec_mir Tryd.func13 rfl (by kernel_rfl) (by kernel_rfl) (fun y : R45Table=>.agg [.d (.int .i64 y.Work.e0.X),.d (.int .i64 y.Work.e0.Y),.d (.int .i64 y.Work.e0.Z),.d (.int .i64 y.Work.e1.X),.d (.int .i64 y.Work.e1.Y),.d (.int .i64 y.Work.e1.Z),.d (.int .i64 y.Work.e2.X),.d (.int .i64 y.Work.e2.Y),.d (.int .i64 y.Work.e2.Z),.d (.int .i64 y.Work.e3.X),.d (.int .i64 y.Work.e3.Y),.d (.int .i64 y.Work.e3.Z),.d (.int .i64 y.Work.e4.X),.d (.int .i64 y.Work.e4.Y),.d (.int .i64 y.Work.e4.Z),.d (.int .i64 y.Work.e5.X),.d (.int .i64 y.Work.e5.Y),.d (.int .i64 y.Work.e5.Z),.d (.list (List.map encR45Length y.Lengths))]) ?_ h
 unfold r47_Table
 simp only [List.replicate,List.length,nS,nA,Tryd.ntmps13,SV]
 refine .sR fun e h=>?_
 simp only [seval,EMB,zero_28]
 refine mU e (.sR fun e h=>?_) h
 simp only [seval,EMB,zero_72,pl_72,und_26,sz_72,(oL 2),zero_28,pl_28,sz_28]
 refine mU e (.sR fun e h=>?_) h
 simp only [seval,EMB,zero_24,pl_24,fld_28_0,sz_25,und_25,sz_24,ag_24]
 refine mU e (.sR fun e h=>?_) h
 simp only [seval,EMB,ag_28,sz_28]
 refine mU e (.ret fun e h=>?_) h
 cases h
 simp only [seval,FMB,Tryd.results13,ag_28,sz_28]
def l47_theirs (a0 : R45Table) : Option TableTable := bindO (guardO (okIdx a0.Lengths) ( rangeX (fun (i1 : Nat) (e1 : R45Length) (v1 : (List TableLength))=>guardO (okLen (v1.length + 1)) ( some (.go (v1 ++ [TableLength.mk e1.Number e1.Length])))) (fun (v1 : (List TableLength))=>some v1) a0.Lengths 0 [])) fun (v2 : (List TableLength))=>some (TableTable.mk a0.Work v2)
theorem l47_theirs_spec {a0 : R45Table} {y : TableTable} (h : l47_theirs a0 = some y) : Spec gP 9 [.agg [.d (.int .i64 a0.Work.e0.X),.d (.int .i64 a0.Work.e0.Y),.d (.int .i64 a0.Work.e0.Z),.d (.int .i64 a0.Work.e1.X),.d (.int .i64 a0.Work.e1.Y),.d (.int .i64 a0.Work.e1.Z),.d (.int .i64 a0.Work.e2.X),.d (.int .i64 a0.Work.e2.Y),.d (.int .i64 a0.Work.e2.Z),.d (.int .i64 a0.Work.e3.X),.d (.int .i64 a0.Work.e3.Y),.d (.int .i64 a0.Work.e3.Z),.d (.int .i64 a0.Work.e4.X),.d (.int .i64 a0.Work.e4.Y),.d (.int .i64 a0.Work.e4.Z),.d (.int .i64 a0.Work.e5.X),.d (.int .i64 a0.Work.e5.Y),.d (.int .i64 a0.Work.e5.Z),.d (.list (List.map encR45Length a0.Lengths))]] (.agg [.d (.int .i64 y.Work.e0.X),.d (.int .i64 y.Work.e0.Y),.d (.int .i64 y.Work.e0.Z),.d (.int .i64 y.Work.e1.X),.d (.int .i64 y.Work.e1.Y),.d (.int .i64 y.Work.e1.Z),.d (.int .i64 y.Work.e2.X),.d (.int .i64 y.Work.e2.Y),.d (.int .i64 y.Work.e2.Z),.d (.int .i64 y.Work.e3.X),.d (.int .i64 y.Work.e3.Y),.d (.int .i64 y.Work.e3.Z),.d (.int .i64 y.Work.e4.X),.d (.int .i64 y.Work.e4.Y),.d (.int .i64 y.Work.e4.Z),.d (.int .i64 y.Work.e5.X),.d (.int .i64 y.Work.e5.Y),.d (.int .i64 y.Work.e5.Z),.d (.list (List.map encTableLength y.Lengths))]) := by
 refine spec_mir Tryd.func9 rfl (by kernel_rfl) (by kernel_rfl) (fun y : TableTable=>.agg [.d (.int .i64 y.Work.e0.X),.d (.int .i64 y.Work.e0.Y),.d (.int .i64 y.Work.e0.Z),.d (.int .i64 y.Work.e1.X),.d (.int .i64 y.Work.e1.Y),.d (.int .i64 y.Work.e1.Z),.d (.int .i64 y.Work.e2.X),.d (.int .i64 y.Work.e2.Y),.d (.int .i64 y.Work.e2.Z),.d (.int .i64 y.Work.e3.X),.d (.int .i64 y.Work.e3.Y),.d (.int .i64 y.Work.e3.Z),.d (.int .i64 y.Work.e4.X),.d (.int .i64 y.Work.e4.Y),.d (.int .i64 y.Work.e4.Z),.d (.int .i64 y.Work.e5.X),.d (.int .i64 y.Work.e5.Y),.d (.int .i64 y.Work.e5.Z),.d (.list (List.map encTableLength y.Lengths))]) ?_ h
 unfold l47_theirs
 simp only [List.replicate,List.length,nS,nA,Tryd.ntmps9,SV]
 refine .sR fun e h=>?_
 simp only [seval,EMB,zero_49]
 refine mU e (.sR fun e h=>?_) h
 simp only [seval,EMB,fld_28_0,sz_25,ag_25,zero_49,pl_49,sz_49]
 refine mU e (.seqK (.sR fun e h=>?_)) h
 simp only [seval,EMB,fld_28_1,sz_26,ag_26,und_26]
 refine mU e (.gh [.cell 2 18 73] rfl (Mir.joinO (fun v2 : (List TableLength)=>([U,U,.ptr 1 0,.ptr 2 0] ++ us 24)) (fun v2=>⟨[[.d (.int .i64 a0.Work.e0.X),.d (.int .i64 a0.Work.e0.Y),.d (.int .i64 a0.Work.e0.Z),.d (.int .i64 a0.Work.e1.X),.d (.int .i64 a0.Work.e1.Y),.d (.int .i64 a0.Work.e1.Z),.d (.int .i64 a0.Work.e2.X),.d (.int .i64 a0.Work.e2.Y),.d (.int .i64 a0.Work.e2.Z),.d (.int .i64 a0.Work.e3.X),.d (.int .i64 a0.Work.e3.Y),.d (.int .i64 a0.Work.e3.Z),.d (.int .i64 a0.Work.e4.X),.d (.int .i64 a0.Work.e4.Y),.d (.int .i64 a0.Work.e4.Z),.d (.int .i64 a0.Work.e5.X),.d (.int .i64 a0.Work.e5.Y),.d (.int .i64 a0.Work.e5.Z),.d (.list (List.map encR45Length a0.Lengths))],[.d (.int .i64 0),.d (.int .i64 0),.d (.int .i64 0),.d (.int .i64 0),.d (.int .i64 0),.d (.int .i64 0),.d (.int .i64 0),.d (.int .i64 0),.d (.int .i64 0),.d (.int .i64 0),.d (.int .i64 0),.d (.int .i64 0),.d (.int .i64 0),.d (.int .i64 0),.d (.int .i64 0),.d (.int .i64 0),.d (.int .i64 0),.d (.int .i64 0),.nil],[.d (.int .i64 a0.Work.e0.X),.d (.int .i64 a0.Work.e0.Y),.d (.int .i64 a0.Work.e0.Z),.d (.int .i64 a0.Work.e1.X),.d (.int .i64 a0.Work.e1.Y),.d (.int .i64 a0.Work.e1.Z),.d (.int .i64 a0.Work.e2.X),.d (.int .i64 a0.Work.e2.Y),.d (.int .i64 a0.Work.e2.Z),.d (.int .i64 a0.Work.e3.X),.d (.int .i64 a0.Work.e3.Y),.d (.int .i64 a0.Work.e3.Z),.d (.int .i64 a0.Work.e4.X),.d (.int .i64 a0.Work.e4.Y),.d (.int .i64 a0.Work.e4.Z),.d (.int .i64 a0.Work.e5.X),.d (.int .i64 a0.Work.e5.Y),.d (.int .i64 a0.Work.e5.Z),.own 0 (List.map encTableLength v2)]],[(73,v2.length)]⟩) (fun _=>rfl) ?_ ?_)) h
 refine .block (.guard fun qg65=>Mir.range (fun (i1 : Nat) (v1 : (List TableLength))=>([U,U,.ptr 1 0,.ptr 2 0,U,U,U,U,U,U,.d (.list (List.map encR45Length a0.Lengths)),.d (.int .i64 (a0.Lengths.length : Int)),.d (.int .i64 (i1 : Int))] ++ us 15)) (fun i1 v1=>⟨[[.d (.int .i64 a0.Work.e0.X),.d (.int .i64 a0.Work.e0.Y),.d (.int .i64 a0.Work.e0.Z),.d (.int .i64 a0.Work.e1.X),.d (.int .i64 a0.Work.e1.Y),.d (.int .i64 a0.Work.e1.Z),.d (.int .i64 a0.Work.e2.X),.d (.int .i64 a0.Work.e2.Y),.d (.int .i64 a0.Work.e2.Z),.d (.int .i64 a0.Work.e3.X),.d (.int .i64 a0.Work.e3.Y),.d (.int .i64 a0.Work.e3.Z),.d (.int .i64 a0.Work.e4.X),.d (.int .i64 a0.Work.e4.Y),.d (.int .i64 a0.Work.e4.Z),.d (.int .i64 a0.Work.e5.X),.d (.int .i64 a0.Work.e5.Y),.d (.int .i64 a0.Work.e5.Z),.d (.list (List.map encR45Length a0.Lengths))],[.d (.int .i64 0),.d (.int .i64 0),.d (.int .i64 0),.d (.int .i64 0),.d (.int .i64 0),.d (.int .i64 0),.d (.int .i64 0),.d (.int .i64 0),.d (.int .i64 0),.d (.int .i64 0),.d (.int .i64 0),.d (.int .i64 0),.d (.int .i64 0),.d (.int .i64 0),.d (.int .i64 0),.d (.int .i64 0),.d (.int .i64 0),.d (.int .i64 0),.nil],[.d (.int .i64 a0.Work.e0.X),.d (.int .i64 a0.Work.e0.Y),.d (.int .i64 a0.Work.e0.Z),.d (.int .i64 a0.Work.e1.X),.d (.int .i64 a0.Work.e1.Y),.d (.int .i64 a0.Work.e1.Z),.d (.int .i64 a0.Work.e2.X),.d (.int .i64 a0.Work.e2.Y),.d (.int .i64 a0.Work.e2.Z),.d (.int .i64 a0.Work.e3.X),.d (.int .i64 a0.Work.e3.Y),.d (.int .i64 a0.Work.e3.Z),.d (.int .i64 a0.Work.e4.X),.d (.int .i64 a0.Work.e4.Y),.d (.int .i64 a0.Work.e4.Z),.d (.int .i64 a0.Work.e5.X),.d (.int .i64 a0.Work.e5.Y),.d (.int .i64 a0.Work.e5.Z),.own 0 (List.map encTableLength v1)]],[(73,v1.length)]⟩) qg65 (fun _ _=>rfl) (by simp only [seval,FMB,zNI]) (by simp only [seval,FMB,zNI]) ?_ ?_)
 intro i1 e1 v1 qr63
 refine .sR fun e h=>?_
 simp only [seval,EMB,qr63]
 refine mU e (.seqK (.condT rfl (.skip (Mir.toK (.seqK (.block (.sR fun e h=>?_))))))) h
 simp only [seval,EMB,und_26,sz_72,qr63,Int.toNat_natCast,ag_72,zero_72]
 refine mU e (.guard fun q67=>.region fun e h=>?_) h
 simp only [seval,EMB,fld_49_1,sz_47,ag_47,fld_72_0,sz_2,ag_2,fld_72_1,zero_73,pl_73,und_47,sz_73,(oL 2),app_47,al_TableLength,q67]
 refine mU e (.region fun e h=>?_) h
 simp only [seval,EMB]
 cases h
 simp only [seval,FMB,Tryd.results9,ag_49,sz_49,qr63]
 intro v1 qd64
 refine .sR fun e h=>?_
 simp only [seval,EMB,qd64]
 refine mU e (.seqK (.condF rfl (.exit fun e h=>?_))) h
 cases h
 simp only [seval,FMB,Tryd.results9,ag_49,sz_49]
 intro v2
 refine Mir.toK (.sR fun e h=>?_)
 simp only [seval,EMB,ag_49,sz_49]
 refine mU e (.ret fun e h=>?_) h
 cases h
 simp only [seval,FMB,Tryd.results9,ag_49,sz_49]
def tb_far (a0 : ApiPos) : Option Bool := some ((decide ((mmI true (mmI true a0.X a0.Y) a0.Z) > 10000000)) || (decide ((mmI false (mmI false a0.X a0.Y) a0.Z) < (-10000000))))
theorem tb_far_spec {a0 : ApiPos} {y : Bool} (h : tb_far a0 = some y) : Spec gP 42 [.agg [.d (.int .i64 a0.X),.d (.int .i64 a0.Y),.d (.int .i64 a0.Z)]] (.d (.bool y)) := by
 refine spec_mir Tryd.func42 rfl (by kernel_rfl) (by kernel_rfl) (fun y : Bool=>.d (.bool y)) ?_ h
 unfold tb_far
 simp only [List.replicate,List.length,nS,nA,Tryd.ntmps42,SV]
 refine .sR fun e h=>?_
 simp only [seval,EMB]
 refine mU e (.sR fun e h=>?_) h
 simp only [seval,EMB,fld_24_0,sz_2,ag_2,fld_24_1,fld_24_2]
 refine mU e (.sR fun e h=>?_) h
 simp only [seval,EMB,fld_24_0,sz_2,ag_2,fld_24_1,fld_24_2]
 refine mU e (.seqK (.joinV ([U,U,.d (.bool ((decide ((mmI true (mmI true a0.X a0.Y) a0.Z) > 10000000)) || (decide ((mmI false (mmI false a0.X a0.Y) a0.Z) < (-10000000)))))] ++ us 22) ⟨[[.d (.int .i64 a0.X),.d (.int .i64 a0.Y),.d (.int .i64 a0.Z)]],[]⟩ rfl ?_ ?_)) h
 refine SWs.region ?_
 rcases Bool.eq_false_or_eq_true (decide ((mmI true (mmI true a0.X a0.Y) a0.Z) > 10000000)) with hb1 | hb1
 simp only [seval,EMB,SL,PB,hb1]
 simp only [seval,EMB,SL,PB,hb1]
 refine Mir.toK (.ret fun e h=>?_)
 cases h
 simp only [seval,FMB,Tryd.results42]
def tb_entry (a0 : TableLength) : Option Bool := some ((decide (a0.Number ≥ 1)) && ((decide (a0.Number ≤ 999)) && ((decide (a0.Length ≥ 0)) && (decide (a0.Length ≤ 10000000)))))
theorem tb_entry_spec {a0 : TableLength} {y : Bool} (h : tb_entry a0 = some y) : Spec gP 43 [.agg [.d (.int .i64 a0.Number),.d (.int .i64 a0.Length)]] (.d (.bool y)) := by
 refine spec_mir Tryd.func43 rfl (by kernel_rfl) (by kernel_rfl) (fun y : Bool=>.d (.bool y)) ?_ h
 unfold tb_entry
 simp only [List.replicate,List.length,nS,nA,Tryd.ntmps43,SV]
 refine .sR fun e h=>?_
 simp only [seval,EMB]
 refine mU e (.seqK (.joinV ([U,U,.d (.bool ((decide (a0.Number ≥ 1)) && ((decide (a0.Number ≤ 999)) && ((decide (a0.Length ≥ 0)) && (decide (a0.Length ≤ 10000000))))))] ++ us 18) ⟨[[.d (.int .i64 a0.Number),.d (.int .i64 a0.Length)]],[]⟩ rfl ?_ ?_)) h
 refine SWs.region ?_
 rcases Bool.eq_false_or_eq_true (decide (a0.Number ≥ 1)) with hb1 | hb1
 rcases Bool.eq_false_or_eq_true (decide (a0.Number ≤ 999)) with hb2 | hb2
 rcases Bool.eq_false_or_eq_true (decide (a0.Length ≥ 0)) with hb3 | hb3
 simp only [seval,EMB,SL,PB,fld_73_0,sz_2,ag_2,fld_73_1,hb1,hb2,hb3]
 simp only [seval,EMB,SL,PB,fld_73_0,sz_2,ag_2,fld_73_1,hb1,hb2,hb3]
 simp only [seval,EMB,SL,PB,fld_73_0,sz_2,ag_2,hb1,hb2]
 simp only [seval,EMB,SL,PB,fld_73_0,sz_2,ag_2,hb1]
 refine Mir.toK (.ret fun e h=>?_)
 cases h
 simp only [seval,FMB,Tryd.results43]
def tb_Valid (a0 : TableTable) : Option Int := bindO (bindO (bindX (bindO (tb_far a0.Work.e0) fun (y1 : Bool)=>if y1 = true then some (.ret 0) else bindO (tb_far a0.Work.e1) fun (y2 : Bool)=>if y2 = true then some (.ret 1) else bindO (tb_far a0.Work.e2) fun (y3 : Bool)=>if y3 = true then some (.ret 2) else bindO (tb_far a0.Work.e3) fun (y4 : Bool)=>if y4 = true then some (.ret 3) else bindO (tb_far a0.Work.e4) fun (y5 : Bool)=>if y5 = true then some (.ret 4) else bindO (tb_far a0.Work.e5) fun (y6 : Bool)=>if y6 = true then some (.ret 5) else some (.go ())) fun (v1 : Unit)=>some (-1)) fun (v2 : Int)=>some (decide (v2 ≥ 0))) fun (v3 : Bool)=>if v3 = true then some 1 else bindX (guardO (okIdx a0.Lengths) ( rangeX (fun (i1 : Nat) (e1 : TableLength) (v4 : Unit)=>bindO (bindO (tb_entry e1) fun (y7 : Bool)=>if y7 = true then if (decide ((i1 : Int) > 0)) = true then bindO (gt a0.Lengths (IntKind.i64.wrap ((i1 : Int) - 1))) fun (e2 : TableLength)=>some (decide (e2.Number ≥ e1.Number)) else some false else some true) fun (v5 : Bool)=>if v5 = true then some (.ret (.ret 1)) else some (.go ())) (fun (v4 : Unit)=>some (.go ())) a0.Lengths 0 ())) fun (v6 : Unit)=>some 0
theorem tb_Valid_spec {a0 : TableTable} {y : Int} (h : tb_Valid a0 = some y) : Spec gP 27 [.agg [.d (.int .i64 a0.Work.e0.X),.d (.int .i64 a0.Work.e0.Y),.d (.int .i64 a0.Work.e0.Z),.d (.int .i64 a0.Work.e1.X),.d (.int .i64 a0.Work.e1.Y),.d (.int .i64 a0.Work.e1.Z),.d (.int .i64 a0.Work.e2.X),.d (.int .i64 a0.Work.e2.Y),.d (.int .i64 a0.Work.e2.Z),.d (.int .i64 a0.Work.e3.X),.d (.int .i64 a0.Work.e3.Y),.d (.int .i64 a0.Work.e3.Z),.d (.int .i64 a0.Work.e4.X),.d (.int .i64 a0.Work.e4.Y),.d (.int .i64 a0.Work.e4.Z),.d (.int .i64 a0.Work.e5.X),.d (.int .i64 a0.Work.e5.Y),.d (.int .i64 a0.Work.e5.Z),.d (.list (List.map encTableLength a0.Lengths))]] (.d (.int .i64 y)) := by
 refine spec_mir Tryd.func27 rfl (by kernel_rfl) (by kernel_rfl) (fun y : Int=>.d (.int .i64 y)) ?_ h
 unfold tb_Valid
 simp only [List.replicate,List.length,nS,nA,Tryd.ntmps27,SV]
 refine .sR fun e h=>?_
 simp only [seval,EMB]
 refine mU e (.seqK (.seqK (.bind fun v3 hv62=>.region fun e h=>?_))) h
 simp only [seval,EMB,fld_49_0,sz_25,und_25,sz_24]
 refine SpecS.inl Tryd.func41 rfl (by kernel_rfl) (by kernel_rfl) (fun v3 : Bool=>.d (.bool v3)) (fun v3=>⟨[[.d (.int .i64 a0.Work.e0.X),.d (.int .i64 a0.Work.e0.Y),.d (.int .i64 a0.Work.e0.Z),.d (.int .i64 a0.Work.e1.X),.d (.int .i64 a0.Work.e1.Y),.d (.int .i64 a0.Work.e1.Z),.d (.int .i64 a0.Work.e2.X),.d (.int .i64 a0.Work.e2.Y),.d (.int .i64 a0.Work.e2.Z),.d (.int .i64 a0.Work.e3.X),.d (.int .i64 a0.Work.e3.Y),.d (.int .i64 a0.Work.e3.Z),.d (.int .i64 a0.Work.e4.X),.d (.int .i64 a0.Work.e4.Y),.d (.int .i64 a0.Work.e4.Z),.d (.int .i64 a0.Work.e5.X),.d (.int .i64 a0.Work.e5.Y),.d (.int .i64 a0.Work.e5.Z),.d (.list (List.map encTableLength a0.Lengths))]],[]⟩) hv62 rfl ?_ ?_
 simp only [List.replicate,List.length,nS,nA,Tryd.ntmps41,SV]
 refine .sR fun e h=>?_
 simp only [seval,EMB]
 refine mU e (.seqK (.bind fun v2 h1=>.region fun e h=>?_)) h
 simp only [seval,EMB]
 refine SpecS.inl Tryd.func55 rfl (by kernel_rfl) (by kernel_rfl) (fun v2 : Int=>.d (.int .i64 v2)) (fun v2=>⟨[[.d (.int .i64 a0.Work.e0.X),.d (.int .i64 a0.Work.e0.Y),.d (.int .i64 a0.Work.e0.Z),.d (.int .i64 a0.Work.e1.X),.d (.int .i64 a0.Work.e1.Y),.d (.int .i64 a0.Work.e1.Z),.d (.int .i64 a0.Work.e2.X),.d (.int .i64 a0.Work.e2.Y),.d (.int .i64 a0.Work.e2.Z),.d (.int .i64 a0.Work.e3.X),.d (.int .i64 a0.Work.e3.Y),.d (.int .i64 a0.Work.e3.Z),.d (.int .i64 a0.Work.e4.X),.d (.int .i64 a0.Work.e4.Y),.d (.int .i64 a0.Work.e4.Z),.d (.int .i64 a0.Work.e5.X),.d (.int .i64 a0.Work.e5.Y),.d (.int .i64 a0.Work.e5.Z),.d (.list (List.map encTableLength a0.Lengths))]],[]⟩) h1 rfl ?_ ?_
 simp only [List.replicate,List.length,nS,nA,Tryd.ntmps55,SV]
 refine .sR fun e h=>?_
 simp only [seval,EMB]
 refine mU e (.seqK (.sR fun e h=>?_)) h
 simp only [seval,EMB,und_97,(nr rfl : ((6 : Nat) : Int) = 6)]
 refine mU e (Mir.join (fun v1 : Unit=>(us 19)) (fun v1=>⟨[[.d (.int .i64 a0.Work.e0.X),.d (.int .i64 a0.Work.e0.Y),.d (.int .i64 a0.Work.e0.Z),.d (.int .i64 a0.Work.e1.X),.d (.int .i64 a0.Work.e1.Y),.d (.int .i64 a0.Work.e1.Z),.d (.int .i64 a0.Work.e2.X),.d (.int .i64 a0.Work.e2.Y),.d (.int .i64 a0.Work.e2.Z),.d (.int .i64 a0.Work.e3.X),.d (.int .i64 a0.Work.e3.Y),.d (.int .i64 a0.Work.e3.Z),.d (.int .i64 a0.Work.e4.X),.d (.int .i64 a0.Work.e4.Y),.d (.int .i64 a0.Work.e4.Z),.d (.int .i64 a0.Work.e5.X),.d (.int .i64 a0.Work.e5.Y),.d (.int .i64 a0.Work.e5.Z),.d (.list (List.map encTableLength a0.Lengths))]],[]⟩) (fun _=>rfl) ?_ ?_) h
 refine .block (.loopR 15 (.sR fun e h=>?_))
 simp only [seval,EMB]
 refine mU e (.seqK (.condT rfl (.skip (Mir.toK (.seqK (.block (.sR fun e h=>?_))))))) h
 simp only [seval,EMB]
 refine mU e (.seqK (.bind fun y1 h2=>.region fun e h=>?_)) h
 simp only [seval,EMB,und_97,sz_24,ag_24]
 refine SpecS.by (tb_far_spec h2) (by simp only [seval,FMB]) ?_
 simp only [seval,EMB]
 refine mU e (.cond rfl (fun h3=>?_) (fun h3=>?_)) h
 refine .sR fun e h=>?_
 simp only [seval,EMB]
 refine mU e (.ret fun e h=>?_) h
 cases h
 simp only [seval,FMB,Tryd.results55]
 refine .skip (Mir.toB (Mir.toK (.region fun e h=>?_)))
 simp only [seval,EMB,(nr rfl : IntKind.i64.wrap 1 = 1)]
 refine Mir.useN (e := e) ?_ h
 refine .sR fun e h=>?_
 simp only [seval,EMB]
 refine mU e (.seqK (.condT rfl (.skip (Mir.toK (.seqK (.block (.sR fun e h=>?_))))))) h
 simp only [seval,EMB]
 refine mU e (.seqK (.bind fun y2 h4=>.region fun e h=>?_)) h
 simp only [seval,EMB,und_97,sz_24,ag_24]
 refine SpecS.by (tb_far_spec h4) (by simp only [seval,FMB]) ?_
 simp only [seval,EMB]
 refine mU e (.cond rfl (fun h5=>?_) (fun h5=>?_)) h
 refine .sR fun e h=>?_
 simp only [seval,EMB]
 refine mU e (.ret fun e h=>?_) h
 cases h
 simp only [seval,FMB,Tryd.results55]
 refine .skip (Mir.toB (Mir.toK (.region fun e h=>?_)))
 simp only [seval,EMB,(nr rfl : IntKind.i64.wrap 2 = 2)]
 refine Mir.useN (e := e) ?_ h
 refine .sR fun e h=>?_
 simp only [seval,EMB]
 refine mU e (.seqK (.condT rfl (.skip (Mir.toK (.seqK (.block (.sR fun e h=>?_))))))) h
 simp only [seval,EMB]
 refine mU e (.seqK (.bind fun y3 h6=>.region fun e h=>?_)) h
 simp only [seval,EMB,und_97,sz_24,ag_24]
 refine SpecS.by (tb_far_spec h6) (by simp only [seval,FMB]) ?_
 simp only [seval,EMB]
 refine mU e (.cond rfl (fun h7=>?_) (fun h7=>?_)) h
 refine .sR fun e h=>?_
 simp only [seval,EMB]
 refine mU e (.ret fun e h=>?_) h
 cases h
 simp only [seval,FMB,Tryd.results55]
 refine .skip (Mir.toB (Mir.toK (.region fun e h=>?_)))
 simp only [seval,EMB,(nr rfl : IntKind.i64.wrap 3 = 3)]
 refine Mir.useN (e := e) ?_ h
 refine .sR fun e h=>?_
 simp only [seval,EMB]
 refine mU e (.seqK (.condT rfl (.skip (Mir.toK (.seqK (.block (.sR fun e h=>?_))))))) h
 simp only [seval,EMB]
 refine mU e (.seqK (.bind fun y4 h8=>.region fun e h=>?_)) h
 simp only [seval,EMB,und_97,sz_24,ag_24]
 refine SpecS.by (tb_far_spec h8) (by simp only [seval,FMB]) ?_
 simp only [seval,EMB]
 refine mU e (.cond rfl (fun h9=>?_) (fun h9=>?_)) h
 refine .sR fun e h=>?_
 simp only [seval,EMB]
 refine mU e (.ret fun e h=>?_) h
 cases h
 simp only [seval,FMB,Tryd.results55]
 refine .skip (Mir.toB (Mir.toK (.region fun e h=>?_)))
 simp only [seval,EMB,(nr rfl : IntKind.i64.wrap 4 = 4)]
 refine Mir.useN (e := e) ?_ h
 refine .sR fun e h=>?_
 simp only [seval,EMB]
 refine mU e (.seqK (.condT rfl (.skip (Mir.toK (.seqK (.block (.sR fun e h=>?_))))))) h
 simp only [seval,EMB]
 refine mU e (.seqK (.bind fun y5 h10=>.region fun e h=>?_)) h
 simp only [seval,EMB,und_97,sz_24,ag_24]
 refine SpecS.by (tb_far_spec h10) (by simp only [seval,FMB]) ?_
 simp only [seval,EMB]
 refine mU e (.cond rfl (fun h11=>?_) (fun h11=>?_)) h
 refine .sR fun e h=>?_
 simp only [seval,EMB]
 refine mU e (.ret fun e h=>?_) h
 cases h
 simp only [seval,FMB,Tryd.results55]
 refine .skip (Mir.toB (Mir.toK (.region fun e h=>?_)))
 simp only [seval,EMB,(nr rfl : IntKind.i64.wrap 5 = 5)]
 refine Mir.useN (e := e) ?_ h
 refine .sR fun e h=>?_
 simp only [seval,EMB]
 refine mU e (.seqK (.condT rfl (.skip (Mir.toK (.seqK (.block (.sR fun e h=>?_))))))) h
 simp only [seval,EMB]
 refine mU e (.seqK (.bind fun y6 h12=>.region fun e h=>?_)) h
 simp only [seval,EMB,und_97,sz_24,ag_24]
 refine SpecS.by (tb_far_spec h12) (by simp only [seval,FMB]) ?_
 simp only [seval,EMB]
 refine mU e (.cond rfl (fun h13=>?_) (fun h13=>?_)) h
 refine .sR fun e h=>?_
 simp only [seval,EMB]
 refine mU e (.ret fun e h=>?_) h
 cases h
 simp only [seval,FMB,Tryd.results55]
 refine .skip (Mir.toB (Mir.toK (.region fun e h=>?_)))
 simp only [seval,EMB,(nr rfl : IntKind.i64.wrap 6 = 6)]
 refine Mir.useN (e := e) ?_ h
 refine .sR fun e h=>?_
 simp only [seval,EMB]
 refine mU e (.seqK (.condF rfl (.exit fun e h=>?_))) h
 cases h
 simp only [seval,FMB,Tryd.results55]
 intro v1
 refine Mir.toK (.sR fun e h=>?_)
 simp only [seval,EMB]
 refine mU e (.ret fun e h=>?_) h
 cases h
 simp only [seval,FMB,Tryd.results55]
 simp only [seval,EMB]
 refine mU e (.ret fun e h=>?_) h
 cases h
 simp only [seval,FMB,Tryd.results41]
 simp only [seval,EMB]
 refine mU e (.cond rfl (fun h14=>?_) (fun h14=>?_)) h
 refine .sR fun e h=>?_
 simp only [seval,EMB]
 refine mU e (.ret fun e h=>?_) h
 cases h
 simp only [seval,FMB,Tryd.results27]
 refine .skip (Mir.toK (.seqK (.sR fun e h=>?_)))
 simp only [seval,EMB,fld_49_1,sz_47,ag_47,und_47]
 refine mU e (Mir.join (fun v6 : Unit=>(us 36)) (fun v6=>⟨[[.d (.int .i64 a0.Work.e0.X),.d (.int .i64 a0.Work.e0.Y),.d (.int .i64 a0.Work.e0.Z),.d (.int .i64 a0.Work.e1.X),.d (.int .i64 a0.Work.e1.Y),.d (.int .i64 a0.Work.e1.Z),.d (.int .i64 a0.Work.e2.X),.d (.int .i64 a0.Work.e2.Y),.d (.int .i64 a0.Work.e2.Z),.d (.int .i64 a0.Work.e3.X),.d (.int .i64 a0.Work.e3.Y),.d (.int .i64 a0.Work.e3.Z),.d (.int .i64 a0.Work.e4.X),.d (.int .i64 a0.Work.e4.Y),.d (.int .i64 a0.Work.e4.Z),.d (.int .i64 a0.Work.e5.X),.d (.int .i64 a0.Work.e5.Y),.d (.int .i64 a0.Work.e5.Z),.d (.list (List.map encTableLength a0.Lengths))]],[]⟩) (fun _=>rfl) ?_ ?_) h
 refine .block (.guard fun q1=>Mir.range (fun (i1 : Nat) (v4 : Unit)=>([U,.ptr 0 0,U,U,U,U,U,U,U,.d (.list (List.map encTableLength a0.Lengths)),.d (.int .i64 (a0.Lengths.length : Int)),.d (.int .i64 (i1 : Int))] ++ us 24)) (fun i1 v4=>⟨[[.d (.int .i64 a0.Work.e0.X),.d (.int .i64 a0.Work.e0.Y),.d (.int .i64 a0.Work.e0.Z),.d (.int .i64 a0.Work.e1.X),.d (.int .i64 a0.Work.e1.Y),.d (.int .i64 a0.Work.e1.Z),.d (.int .i64 a0.Work.e2.X),.d (.int .i64 a0.Work.e2.Y),.d (.int .i64 a0.Work.e2.Z),.d (.int .i64 a0.Work.e3.X),.d (.int .i64 a0.Work.e3.Y),.d (.int .i64 a0.Work.e3.Z),.d (.int .i64 a0.Work.e4.X),.d (.int .i64 a0.Work.e4.Y),.d (.int .i64 a0.Work.e4.Z),.d (.int .i64 a0.Work.e5.X),.d (.int .i64 a0.Work.e5.Y),.d (.int .i64 a0.Work.e5.Z),.d (.list (List.map encTableLength a0.Lengths))]],[]⟩) q1 (fun _ _=>rfl) (by simp only [seval,FMB,zNI]) (by simp only [seval,FMB,zNI]) ?_ ?_)
 intro i1 e1 v4 q2
 refine .sR fun e h=>?_
 simp only [seval,EMB,q2]
 refine mU e (.seqK (.condT rfl (.skip (Mir.toK (.seqK (.block (.sR fun e h=>?_))))))) h
 simp only [seval,EMB,und_47,sz_73,q2,Int.toNat_natCast,ag_73,zero_73]
 refine mU e (.seqK (Mir.joinO (fun v5 : Bool=>[U,.ptr 0 0,U,U,U,U,U,U,U,.d (.list (List.map encTableLength a0.Lengths)),.d (.int .i64 (a0.Lengths.length : Int)),.d (.int .i64 (i1 : Int)),U,U,U,U,U,U,U,U,U,U,U,U,U,U,U,U,U,U,U,U,U,U,.d (.bool v5),U]) (fun v5=>⟨[[.d (.int .i64 a0.Work.e0.X),.d (.int .i64 a0.Work.e0.Y),.d (.int .i64 a0.Work.e0.Z),.d (.int .i64 a0.Work.e1.X),.d (.int .i64 a0.Work.e1.Y),.d (.int .i64 a0.Work.e1.Z),.d (.int .i64 a0.Work.e2.X),.d (.int .i64 a0.Work.e2.Y),.d (.int .i64 a0.Work.e2.Z),.d (.int .i64 a0.Work.e3.X),.d (.int .i64 a0.Work.e3.Y),.d (.int .i64 a0.Work.e3.Z),.d (.int .i64 a0.Work.e4.X),.d (.int .i64 a0.Work.e4.Y),.d (.int .i64 a0.Work.e4.Z),.d (.int .i64 a0.Work.e5.X),.d (.int .i64 a0.Work.e5.Y),.d (.int .i64 a0.Work.e5.Z),.d (.list (List.map encTableLength a0.Lengths))],[.d (.int .i64 e1.Number),.d (.int .i64 e1.Length)]],[]⟩) (fun _=>rfl) ?_ ?_)) h
 refine .bind fun y7 h15=>.ite (fun h16=>?_) (fun h16=>?_)
 refine .ite (fun h17=>?_) (fun h17=>?_)
 refine .bind fun e2 q3=>?_
 replace q3 := gt_ok q3
 refine .regionD [] (by kernel_rfl) fun e h=>?_
 simp only [seval,EMB,SB,ag_73,sz_73,h16,h17]
 refine Spec.by (tb_entry_spec h15) (by simp only [seval,FMB,h16,h17]) ?_
 simp only [seval,EMB,SB,fld_49_1,sz_47,ag_47,und_47,sz_73,q3,fld_73_0,sz_2,ag_2,h16,h17]
 cases h
 simp only [seval,FMB,h16,h17]
 refine .regionD [] (by kernel_rfl) fun e h=>?_
 simp only [seval,EMB,SB,ag_73,sz_73,h16,h17]
 refine Spec.by (tb_entry_spec h15) (by simp only [seval,FMB,h16,h17]) ?_
 simp only [seval,EMB,SB,h16,h17]
 cases h
 simp only [seval,FMB,h16,h17]
 refine .regionD [] (by kernel_rfl) fun e h=>?_
 simp only [seval,EMB,SB,ag_73,sz_73,h16]
 refine Spec.by (tb_entry_spec h15) (by simp only [seval,FMB,h16]) ?_
 simp only [seval,EMB,SB,h16]
 cases h
 simp only [seval,FMB,h16]
 intro v5
 refine Mir.toK (.cond rfl (fun h18=>?_) (fun h18=>?_))
 refine .sR fun e h=>?_
 simp only [seval,EMB]
 refine mU e (.ret fun e h=>?_) h
 cases h
 simp only [seval,FMB,Tryd.results27]
 refine .skip (Mir.toB (Mir.toK (.region fun e h=>?_)))
 simp only [seval,EMB]
 cases h
 simp only [seval,FMB,Tryd.results27,q2]
 intro v4 q4
 refine .sR fun e h=>?_
 simp only [seval,EMB,q4]
 refine mU e (.seqK (.condF rfl (.exit fun e h=>?_))) h
 cases h
 simp only [seval,FMB,Tryd.results27]
 intro v6
 refine Mir.toK (.sR fun e h=>?_)
 simp only [seval,EMB]
 refine mU e (.ret fun e h=>?_) h
 cases h
 simp only [seval,FMB,Tryd.results27]
def inp_inside_c1 (a0 : Int) : Option Bool := some ((decide (a0 < (-10000000))) || (decide (a0 > 10000000)))
theorem inp_inside_c1_spec {a0 : Int} {y : Bool} (h : inp_inside_c1 a0 = some y) : Spec gP 45 [.d (.int .i64 a0)] (.d (.bool y)) := by
 refine spec_mir Tryd.func45 rfl (by kernel_rfl) (by kernel_rfl) (fun y : Bool=>.d (.bool y)) ?_ h
 unfold inp_inside_c1
 simp only [List.replicate,List.length,nS,nA,Tryd.ntmps45,SV]
 refine .sR fun e h=>?_
 simp only [seval,EMB]
 refine mU e (.seqK (.joinV ([U,U,.d (.bool ((decide (a0 < (-10000000))) || (decide (a0 > 10000000))))] ++ us 6) ⟨[],[]⟩ rfl ?_ ?_)) h
 refine SWs.region ?_
 rcases Bool.eq_false_or_eq_true (decide (a0 < (-10000000))) with hb1 | hb1
 simp only [seval,EMB,SL,PB,hb1]
 simp only [seval,EMB,SL,PB,hb1]
 refine Mir.toK (.ret fun e h=>?_)
 cases h
 simp only [seval,FMB,Tryd.results45]
def inp_inside (a0 : ApiPos) : Option Bool := bindO (bindO (bindX (bindO (inp_inside_c1 a0.X) fun (y1 : Bool)=>if y1 = true then some (.ret 0) else bindO (inp_inside_c1 a0.Y) fun (y2 : Bool)=>if y2 = true then some (.ret 1) else bindO (inp_inside_c1 a0.Z) fun (y3 : Bool)=>if y3 = true then some (.ret 2) else some (.go ())) fun (v1 : Unit)=>some (-1)) fun (v2 : Int)=>some (decide (v2 ≥ 0))) fun (v3 : Bool)=>some (!v3)
theorem inp_inside_spec {a0 : ApiPos} {y : Bool} (h : inp_inside a0 = some y) : Spec gP 28 [.agg [.d (.int .i64 a0.X),.d (.int .i64 a0.Y),.d (.int .i64 a0.Z)]] (.d (.bool y)) := by
 refine spec_mir Tryd.func28 rfl (by kernel_rfl) (by kernel_rfl) (fun y : Bool=>.d (.bool y)) ?_ h
 unfold inp_inside
 simp only [List.replicate,List.length,nS,nA,Tryd.ntmps28,SV]
 refine .sR fun e h=>?_
 simp only [seval,EMB,eInt]
 refine mU e (.seqK (.bind fun v3 hv32=>.region fun e h=>?_)) h
 simp only [seval,EMB,fld_24_0,sz_2,ag_2,fld_24_1,fld_24_2,und_69,zero_2,(oL 3),eInt]
 refine SpecS.inl Tryd.func44 rfl (by kernel_rfl) (by kernel_rfl) (fun v3 : Bool=>.d (.bool v3)) (fun v3=>⟨[[.d (.int .i64 a0.X),.d (.int .i64 a0.Y),.d (.int .i64 a0.Z)]],[]⟩) hv32 rfl ?_ ?_
 simp only [List.replicate,List.length,nS,nA,Tryd.ntmps44,SV]
 refine .sR fun e h=>?_
 simp only [seval,EMB,eInt]
 refine mU e (.seqK (.bind fun v2 hv63=>.region fun e h=>?_)) h
 simp only [seval,EMB,eInt]
 refine SpecS.inl Tryd.func56 rfl (by kernel_rfl) (by kernel_rfl) (fun v2 : Int=>.d (.int .i64 v2)) (fun v2=>⟨[[.d (.int .i64 a0.X),.d (.int .i64 a0.Y),.d (.int .i64 a0.Z)]],[]⟩) hv63 rfl ?_ ?_
 simp only [List.replicate,List.length,nS,nA,Tryd.ntmps56,SV]
 refine .sR fun e h=>?_
 simp only [seval,EMB,eInt]
 refine mU e (.seqK (.sR fun e h=>?_)) h
 simp only [seval,EMB,und_69,(nr rfl : ((3 : Nat) : Int) = 3),eInt]
 refine mU e (Mir.join (fun v1 : Unit=>(us 19)) (fun v1=>⟨[[.d (.int .i64 a0.X),.d (.int .i64 a0.Y),.d (.int .i64 a0.Z)]],[]⟩) (fun _=>rfl) ?_ ?_) h
 refine .block (.loopR 15 (.sR fun e h=>?_))
 simp only [seval,EMB,eInt]
 refine mU e (.seqK (.condT rfl (.skip (Mir.toK (.seqK (.block (.sR fun e h=>?_))))))) h
 simp only [seval,EMB,eInt]
 refine mU e (.seqK (.bind fun y1 hy81=>.region fun e h=>?_)) h
 simp only [seval,EMB,und_69,sz_2,ag_2,eInt]
 refine SpecS.by (inp_inside_c1_spec hy81) (by simp only [seval,FMB,eInt]) ?_
 simp only [seval,EMB,eInt]
 refine mU e (.cond rfl (fun hb83=>?_) (fun hb83=>?_)) h
 refine .sR fun e h=>?_
 simp only [seval,EMB,eInt]
 refine mU e (.ret fun e h=>?_) h
 cases h
 simp only [seval,FMB,eInt,Tryd.results56]
 refine .skip (Mir.toB (Mir.toK (.region fun e h=>?_)))
 simp only [seval,EMB,(nr rfl : IntKind.i64.wrap 1 = 1),eInt]
 refine Mir.useN (e := e) ?_ h
 refine .sR fun e h=>?_
 simp only [seval,EMB,eInt]
 refine mU e (.seqK (.condT rfl (.skip (Mir.toK (.seqK (.block (.sR fun e h=>?_))))))) h
 simp only [seval,EMB,eInt]
 refine mU e (.seqK (.bind fun y2 hy86=>.region fun e h=>?_)) h
 simp only [seval,EMB,und_69,sz_2,ag_2,eInt]
 refine SpecS.by (inp_inside_c1_spec hy86) (by simp only [seval,FMB,eInt]) ?_
 simp only [seval,EMB,eInt]
 refine mU e (.cond rfl (fun hb88=>?_) (fun hb88=>?_)) h
 refine .sR fun e h=>?_
 simp only [seval,EMB,eInt]
 refine mU e (.ret fun e h=>?_) h
 cases h
 simp only [seval,FMB,eInt,Tryd.results56]
 refine .skip (Mir.toB (Mir.toK (.region fun e h=>?_)))
 simp only [seval,EMB,(nr rfl : IntKind.i64.wrap 2 = 2),eInt]
 refine Mir.useN (e := e) ?_ h
 refine .sR fun e h=>?_
 simp only [seval,EMB,eInt]
 refine mU e (.seqK (.condT rfl (.skip (Mir.toK (.seqK (.block (.sR fun e h=>?_))))))) h
 simp only [seval,EMB,eInt]
 refine mU e (.seqK (.bind fun y3 hy91=>.region fun e h=>?_)) h
 simp only [seval,EMB,und_69,sz_2,ag_2,eInt]
 refine SpecS.by (inp_inside_c1_spec hy91) (by simp only [seval,FMB,eInt]) ?_
 simp only [seval,EMB,eInt]
 refine mU e (.cond rfl (fun hb93=>?_) (fun hb93=>?_)) h
 refine .sR fun e h=>?_
 simp only [seval,EMB,eInt]
 refine mU e (.ret fun e h=>?_) h
 cases h
 simp only [seval,FMB,eInt,Tryd.results56]
 refine .skip (Mir.toB (Mir.toK (.region fun e h=>?_)))
 simp only [seval,EMB,(nr rfl : IntKind.i64.wrap 3 = 3),eInt]
 refine Mir.useN (e := e) ?_ h
 refine .sR fun e h=>?_
 simp only [seval,EMB,eInt]
 refine mU e (.seqK (.condF rfl (.exit fun e h=>?_))) h
 cases h
 simp only [seval,FMB,eInt,Tryd.results56]
 intro v1
 refine Mir.toK (.sR fun e h=>?_)
 simp only [seval,EMB,eInt]
 refine mU e (.ret fun e h=>?_) h
 cases h
 simp only [seval,FMB,eInt,Tryd.results56]
 simp only [seval,EMB,eInt]
 refine mU e (.ret fun e h=>?_) h
 cases h
 simp only [seval,FMB,eInt,Tryd.results44]
 simp only [seval,EMB,eInt]
 refine mU e (.ret fun e h=>?_) h
 cases h
 simp only [seval,FMB,eInt,Tryd.results28]
def inp_checked (a0 : TableTable) (a1 : ApiPos) : Option Int := bindO (tb_Valid (TableTable.mk a0.Work a0.Lengths)) fun (y1 : Int)=>if (y1 != 0) = true then some 1 else bindO (inp_inside a1) fun (y2 : Bool)=>if (!y2) = true then some 11 else some 0
theorem inp_checked_spec {a0 : TableTable} {a1 : ApiPos} {y : Int} (h : inp_checked a0 a1 = some y) : Spec gP 17 [.agg [.d (.int .i64 a0.Work.e0.X),.d (.int .i64 a0.Work.e0.Y),.d (.int .i64 a0.Work.e0.Z),.d (.int .i64 a0.Work.e1.X),.d (.int .i64 a0.Work.e1.Y),.d (.int .i64 a0.Work.e1.Z),.d (.int .i64 a0.Work.e2.X),.d (.int .i64 a0.Work.e2.Y),.d (.int .i64 a0.Work.e2.Z),.d (.int .i64 a0.Work.e3.X),.d (.int .i64 a0.Work.e3.Y),.d (.int .i64 a0.Work.e3.Z),.d (.int .i64 a0.Work.e4.X),.d (.int .i64 a0.Work.e4.Y),.d (.int .i64 a0.Work.e4.Z),.d (.int .i64 a0.Work.e5.X),.d (.int .i64 a0.Work.e5.Y),.d (.int .i64 a0.Work.e5.Z),.d (.list (List.map encTableLength a0.Lengths))],.agg [.d (.int .i64 a1.X),.d (.int .i64 a1.Y),.d (.int .i64 a1.Z)]] (.d (.int .i64 y)) := by
 refine spec_mir Tryd.func17 rfl (by kernel_rfl) (by kernel_rfl) (fun y : Int=>.d (.int .i64 y)) ?_ h
 unfold inp_checked
 simp only [List.replicate,List.length,nS,nA,Tryd.ntmps17,SV]
 refine .sR fun e h=>?_
 simp only [seval,EMB]
 refine mU e (.seqK (.block (.seqK (.bind fun y1 hy5=>.region fun e h=>?_)))) h
 simp only [seval,EMB,ag_49,sz_49]
 refine SpecS.by (tb_Valid_spec hy5) (by simp only [seval,FMB]) ?_
 simp only [seval,EMB]
 refine mU e (.cond rfl (fun hb9=>?_) (fun hb9=>?_)) h
 refine .sR fun e h=>?_
 simp only [seval,EMB]
 refine mU e (.ret fun e h=>?_) h
 cases h
 simp only [seval,FMB,Tryd.results17]
 refine .seqK (.bind fun y2 hy10=>.region fun e h=>?_)
 simp only [seval,EMB,ag_24,sz_24]
 refine SpecS.by (inp_inside_spec hy10) (by simp only [seval,FMB]) ?_
 simp only [seval,EMB]
 refine mU e (.cond rfl (fun hb12=>?_) (fun hb12=>?_)) h
 refine .sR fun e h=>?_
 simp only [seval,EMB]
 refine mU e (.ret fun e h=>?_) h
 cases h
 simp only [seval,FMB,Tryd.results17]
 refine .skip (Mir.toB (Mir.toK (.sR fun e h=>?_)))
 simp only [seval,EMB]
 refine mU e (.ret fun e h=>?_) h
 cases h
 simp only [seval,FMB,Tryd.results17]
def md_New  : Option ModalState := some (ModalState.mk 0 90000 54000 49000 98000 0 0 0)
theorem md_New_spec  {y : ModalState} (h : md_New = some y) : Spec gP 16 [] (.agg [.d (.int .i64 y.Motion),.d (.int .i64 y.Distance),.d (.int .i64 y.Work),.d (.int .i64 y.Length),.d (.int .i64 y.Return),.d (.int .i64 y.Feed),.d (.int .i64 y.Tool),.d (.int .i64 y.Offset)]) := by
 refine spec_mir Tryd.func16 rfl (by kernel_rfl) (by kernel_rfl) (fun y : ModalState=>.agg [.d (.int .i64 y.Motion),.d (.int .i64 y.Distance),.d (.int .i64 y.Work),.d (.int .i64 y.Length),.d (.int .i64 y.Return),.d (.int .i64 y.Feed),.d (.int .i64 y.Tool),.d (.int .i64 y.Offset)]) ?_ h
 unfold md_New
 simp only [List.replicate,List.length,nS,nA,Tryd.ntmps16,SV]
 refine .sR fun e h=>?_
 simp only [seval,EMB,zero_34]
 refine mU e (.sR fun e h=>?_) h
 simp only [seval,EMB,zero_34,pl_34,sz_34]
 refine mU e (.ret fun e h=>?_) h
 cases h
 simp only [seval,FMB,Tryd.results16,ag_34,sz_34]
def bk_printable (a0 : Int) : Option Bool := some ((decide (a0 ≥ 32)) && ((decide (a0 ≤ 126)) && ((a0 != 40) && (a0 != 41))))
theorem bk_printable_spec {a0 : Int} {y : Bool} (h : bk_printable a0 = some y) : Spec gP 46 [.d (.int .u8 a0)] (.d (.bool y)) := by
 refine spec_mir Tryd.func46 rfl (by kernel_rfl) (by kernel_rfl) (fun y : Bool=>.d (.bool y)) ?_ h
 unfold bk_printable
 simp only [List.replicate,List.length,nS,nA,Tryd.ntmps46,SV]
 refine .sR fun e h=>?_
 simp only [seval,EMB]
 refine mU e (.seqK (.joinV ([U,U,.d (.bool ((decide (a0 ≥ 32)) && ((decide (a0 ≤ 126)) && ((a0 != 40) && (a0 != 41)))))] ++ us 14) ⟨[],[]⟩ rfl ?_ ?_)) h
 refine SWs.region ?_
 rcases Bool.eq_false_or_eq_true (decide (a0 ≥ 32)) with hb1 | hb1
 rcases Bool.eq_false_or_eq_true (decide (a0 ≤ 126)) with hb2 | hb2
 rcases Bool.eq_false_or_eq_true (a0 != 40) with hb3 | hb3
 simp only [seval,EMB,SL,PB,hb1,hb2,hb3]
 simp only [seval,EMB,SL,PB,hb1,hb2,hb3]
 simp only [seval,EMB,SL,PB,hb1,hb2]
 simp only [seval,EMB,SL,PB,hb1]
 refine Mir.toK (.ret fun e h=>?_)
 cases h
 simp only [seval,FMB,Tryd.results46]
def bk_Valid (a0 : ApiBlock) : Option Int := if ((decide ((a0.Words.length : Int) > 16)) || (decide ((a0.Comment.length : Int) > 100))) = true then some 1 else bindX (guardO (okIdx a0.Words) ( rangeX (fun (i1 : Nat) (e1 : ApiWord) (v1 : Unit)=>if ((decide (e1.Letter < 65)) || ((decide (e1.Letter > 90)) || ((decide (e1.Value > 1000000000000)) || (decide (e1.Value < (-1000000000000)))))) = true then some (.ret (.ret 1)) else some (.go ())) (fun (v1 : Unit)=>some (.go ())) a0.Words 0 ())) fun (v2 : Unit)=>bindX (guardO (okIdx (bytesI a0.Comment)) ( rangeX (fun (i2 : Nat) (e2 : Int) (v3 : Unit)=>bindO (bk_printable e2) fun (y1 : Bool)=>if (!y1) = true then some (.ret (.ret 1)) else some (.go ())) (fun (v3 : Unit)=>some (.go ())) (bytesI a0.Comment) 0 ())) fun (v4 : Unit)=>some 0
theorem bk_Valid_spec {a0 : ApiBlock} {y : Int} (h : bk_Valid a0 = some y) : Spec gP 30 [.agg [.d (.bool a0.Skip),.d (.list (List.map encApiWord a0.Words)),.d (.str a0.Comment)]] (.d (.int .i64 y)) := by
 refine spec_mir Tryd.func30 rfl (by kernel_rfl) (by kernel_rfl) (fun y : Int=>.d (.int .i64 y)) ?_ h
 unfold bk_Valid
 simp only [List.replicate,List.length,nS,nA,Tryd.ntmps30,SV]
 refine .sR fun e h=>?_
 simp only [seval,EMB,eInt]
 refine mU e (.seqK (.seqK (.joinV ([U,.ptr 0 0,U,U,U,U,U,U,U,U,U,U,U,U,U,U,.d (.bool ((decide ((a0.Words.length : Int) > 16)) || (decide ((a0.Comment.length : Int) > 100))))] ++ us 38) ⟨[[.d (.bool a0.Skip),.d (.list (List.map encApiWord a0.Words)),.d (.str a0.Comment)]],[]⟩ rfl ?_ ?_))) h
 refine SWs.region ?_
 rcases Bool.eq_false_or_eq_true (decide ((a0.Words.length : Int) > 16)) with hb1 | hb1
 simp only [seval,EMB,SL,PB,fld_41_1,sz_39,ag_39,und_39,hb1,eInt]
 simp only [seval,EMB,SL,PB,fld_41_1,sz_39,ag_39,und_39,fld_41_2,sz_9,ag_9,und_9,hb1,eInt]
 refine Mir.toK (.cond rfl (fun hb3=>?_) (fun hb3=>?_))
 refine .sR fun e h=>?_
 simp only [seval,EMB]
 refine mU e (.ret fun e h=>?_) h
 cases h
 simp only [seval,FMB,Tryd.results30]
 refine .skip (Mir.toK (.seqK (.sR fun e h=>?_)))
 simp only [seval,EMB,fld_41_1,sz_39,ag_39,und_39,eInt]
 refine mU e (Mir.join (fun v2 : Unit=>([U,.ptr 0 0] ++ us 53)) (fun v2=>⟨[[.d (.bool a0.Skip),.d (.list (List.map encApiWord a0.Words)),.d (.str a0.Comment)]],[]⟩) (fun _=>rfl) ?_ ?_) h
 refine .block (.guard fun qg96=>Mir.range (fun (i1 : Nat) (v1 : Unit)=>([U,.ptr 0 0,U,U,U,U,U,U,U,U,U,U,U,U,U,U,U,U,.d (.list (List.map encApiWord a0.Words)),.d (.int .i64 (a0.Words.length : Int)),.d (.int .i64 (i1 : Int))] ++ us 34)) (fun i1 v1=>⟨[[.d (.bool a0.Skip),.d (.list (List.map encApiWord a0.Words)),.d (.str a0.Comment)]],[]⟩) qg96 (fun _ _=>rfl) (by simp only [seval,FMB,zNI]) (by simp only [seval,FMB,zNI]) ?_ ?_)
 intro i1 e1 v1 qr94
 refine .sR fun e h=>?_
 simp only [seval,EMB,qr94]
 refine mU e (.seqK (.condT rfl (.skip (Mir.toK (.seqK (.block (.sR fun e h=>?_))))))) h
 simp only [seval,EMB,und_39,sz_77,qr94,Int.toNat_natCast,ag_77,zero_77]
 refine mU e (.seqK (.joinV ([U,.ptr 0 0,U,U,U,U,U,U,U,U,U,U,U,U,U,U,U,U,.d (.list (List.map encApiWord a0.Words)),.d (.int .i64 (a0.Words.length : Int)),.d (.int .i64 (i1 : Int)),U,U,U,U,U,U,U,U,U,U,U,U,U,U,U,U,U,U,U,U,.d (.bool ((decide (e1.Letter < 65)) || ((decide (e1.Letter > 90)) || ((decide (e1.Value > 1000000000000)) || (decide (e1.Value < (-1000000000000)))))))] ++ us 13) ⟨[[.d (.bool a0.Skip),.d (.list (List.map encApiWord a0.Words)),.d (.str a0.Comment)],[.d (.int .u8 e1.Letter),.d (.int .i64 e1.Value)]],[]⟩ rfl ?_ ?_)) h
 refine SWs.region ?_
 rcases Bool.eq_false_or_eq_true (decide (e1.Letter < 65)) with h1 | h1
 simp only [seval,EMB,SL,PB,fld_77_0,sz_5,ag_5,h1]
 rcases Bool.eq_false_or_eq_true (decide (e1.Letter > 90)) with h2 | h2
 simp only [seval,EMB,SL,PB,fld_77_0,sz_5,ag_5,h1,h2]
 rcases Bool.eq_false_or_eq_true (decide (e1.Value > 1000000000000)) with h3 | h3
 simp only [seval,EMB,SL,PB,fld_77_0,sz_5,ag_5,fld_77_1,sz_2,ag_2,h1,h2,h3]
 simp only [seval,EMB,SL,PB,fld_77_0,sz_5,ag_5,fld_77_1,sz_2,ag_2,h1,h2,h3]
 refine Mir.toK (.cond rfl (fun h4=>?_) (fun h4=>?_))
 refine .sR fun e h=>?_
 simp only [seval,EMB]
 refine mU e (.ret fun e h=>?_) h
 cases h
 simp only [seval,FMB,Tryd.results30]
 refine .skip (Mir.toB (Mir.toK (.region fun e h=>?_)))
 simp only [seval,EMB]
 cases h
 simp only [seval,FMB,Tryd.results30,qr94]
 intro v1 qd95
 refine .sR fun e h=>?_
 simp only [seval,EMB,qd95]
 refine mU e (.seqK (.condF rfl (.exit fun e h=>?_))) h
 cases h
 simp only [seval,FMB,Tryd.results30]
 intro v2
 refine Mir.toK (.seqK (.sR fun e h=>?_))
 simp only [seval,EMB,fld_41_2,sz_9,ag_9,und_9,und_100,und_5,bytes_enc,eInt]
 refine mU e (Mir.join (fun v4 : Unit=>(us 55)) (fun v4=>⟨[[.d (.bool a0.Skip),.d (.list (List.map encApiWord a0.Words)),.d (.str a0.Comment)]],[]⟩) (fun _=>rfl) ?_ ?_) h
 refine .block (.guard fun q1=>Mir.range (fun (i2 : Nat) (v3 : Unit)=>([U,U,U,U,U,U,U,U,U,U,U,U,U,U,U,U,U,U,U,U,U,U,U,U,U,U,U,U,U,U,U,U,U,U,U,U,U,U,U,U,U,U,U,U,U,.d (.list (List.map (eInt .u8) (bytesI a0.Comment))),.d (.int .i64 ((bytesI a0.Comment).length : Int)),.d (.int .i64 (i2 : Int))] ++ us 7)) (fun i2 v3=>⟨[[.d (.bool a0.Skip),.d (.list (List.map encApiWord a0.Words)),.d (.str a0.Comment)]],[]⟩) q1 (fun _ _=>rfl) (by simp only [seval,FMB,eInt,zNI]) (by simp only [seval,FMB,eInt,zNI]) ?_ ?_)
 intro i2 e2 v3 q2
 refine .sR fun e h=>?_
 simp only [seval,EMB,q2,eInt]
 refine mU e (.seqK (.condT rfl (.skip (Mir.toK (.seqK (.block (.sR fun e h=>?_))))))) h
 simp only [seval,EMB,und_100,sz_5,q2,Int.toNat_natCast,ag_5,eInt]
 refine mU e (.seqK (.bind fun y1 h5=>.region fun e h=>?_)) h
 simp only [seval,EMB,eInt]
 refine SpecS.by (bk_printable_spec h5) (by simp only [seval,FMB,eInt]) ?_
 simp only [seval,EMB,eInt]
 refine mU e (.cond rfl (fun h6=>?_) (fun h6=>?_)) h
 refine .sR fun e h=>?_
 simp only [seval,EMB,eInt]
 refine mU e (.ret fun e h=>?_) h
 cases h
 simp only [seval,FMB,eInt,Tryd.results30]
 refine .skip (Mir.toB (Mir.toK (.region fun e h=>?_)))
 simp only [seval,EMB,eInt]
 cases h
 simp only [seval,FMB,eInt,Tryd.results30,q2]
 intro v3 q3
 refine .sR fun e h=>?_
 simp only [seval,EMB,q3,eInt]
 refine mU e (.seqK (.condF rfl (.exit fun e h=>?_))) h
 cases h
 simp only [seval,FMB,eInt,Tryd.results30]
 intro v4
 refine Mir.toK (.sR fun e h=>?_)
 simp only [seval,EMB,eInt]
 refine mU e (.ret fun e h=>?_) h
 cases h
 simp only [seval,FMB,eInt,Tryd.results30]
def md_Group (a0 : Int) : Option Int := bindO (if (a0 == 0) = true then some (a0 == 0) else if (a0 == 1000) = true then some (a0 == 1000) else if (a0 == 2000) = true then some (a0 == 2000) else if (a0 == 3000) = true then some (a0 == 3000) else if (a0 == 80000) = true then some (a0 == 80000) else if (a0 == 81000) = true then some (a0 == 81000) else if (a0 == 82000) = true then some (a0 == 82000) else some (a0 == 83000)) fun (v1 : Bool)=>if v1 = true then some 1 else bindO (if (a0 == 90000) = true then some (a0 == 90000) else some (a0 == 91000)) fun (v2 : Bool)=>if v2 = true then some 2 else bindO (if (a0 == 54000) = true then some (a0 == 54000) else if (a0 == 55000) = true then some (a0 == 55000) else if (a0 == 56000) = true then some (a0 == 56000) else if (a0 == 57000) = true then some (a0 == 57000) else if (a0 == 58000) = true then some (a0 == 58000) else some (a0 == 59000)) fun (v3 : Bool)=>if v3 = true then some 3 else bindO (if (a0 == 43000) = true then some (a0 == 43000) else some (a0 == 49000)) fun (v4 : Bool)=>if v4 = true then some 4 else bindO (if (a0 == 98000) = true then some (a0 == 98000) else some (a0 == 99000)) fun (v5 : Bool)=>if v5 = true then some 5 else some 0
theorem md_Group_spec {a0 : Int} {y : Int} (h : md_Group a0 = some y) : Spec gP 47 [.d (.int .i64 a0)] (.d (.int .i64 y)) := by
 refine spec_mir Tryd.func47 rfl (by kernel_rfl) (by kernel_rfl) (fun y : Int=>.d (.int .i64 y)) ?_ h
 unfold md_Group
 simp only [List.replicate,List.length,nS,nA,Tryd.ntmps47,SV]
 refine .sR fun e h=>?_
 simp only [seval,EMB]
 refine mU e (.seqK (.sR fun e h=>?_)) h
 simp only [seval,EMB]
 refine mU e (.block (.seqK (.sR fun e h=>?_))) h
 simp only [seval,EMB]
 refine mU e (Mir.joinO (fun v1 : Bool=>([U,U,U,.d (.int .i64 a0),.d (.bool v1)] ++ us 24)) (fun v1=>⟨[],[]⟩) (fun _=>rfl) ?_ ?_) h
 refine .cond rfl (fun hb43=>?_) (fun hb43=>?_)
 refine .skip fun e h=>?_
 cases h
 simp only [seval,FMB,Tryd.results47]
 refine .sR fun e h=>?_
 simp only [seval,EMB]
 refine mU e (.cond rfl (fun hb44=>?_) (fun hb44=>?_)) h
 refine .skip fun e h=>?_
 cases h
 simp only [seval,FMB,Tryd.results47]
 refine .sR fun e h=>?_
 simp only [seval,EMB]
 refine mU e (.cond rfl (fun hb45=>?_) (fun hb45=>?_)) h
 refine .skip fun e h=>?_
 cases h
 simp only [seval,FMB,Tryd.results47]
 refine .sR fun e h=>?_
 simp only [seval,EMB]
 refine mU e (.cond rfl (fun hb46=>?_) (fun hb46=>?_)) h
 refine .skip fun e h=>?_
 cases h
 simp only [seval,FMB,Tryd.results47]
 refine .sR fun e h=>?_
 simp only [seval,EMB]
 refine mU e (.cond rfl (fun hb47=>?_) (fun hb47=>?_)) h
 refine .skip fun e h=>?_
 cases h
 simp only [seval,FMB,Tryd.results47]
 refine .sR fun e h=>?_
 simp only [seval,EMB]
 refine mU e (.cond rfl (fun hb48=>?_) (fun hb48=>?_)) h
 refine .skip fun e h=>?_
 cases h
 simp only [seval,FMB,Tryd.results47]
 refine .sR fun e h=>?_
 simp only [seval,EMB]
 refine mU e (.cond rfl (fun hb49=>?_) (fun hb49=>?_)) h
 refine .skip fun e h=>?_
 cases h
 simp only [seval,FMB,Tryd.results47]
 refine .region fun e h=>?_
 simp only [seval,EMB]
 cases h
 simp only [seval,FMB,Tryd.results47]
 intro v1
 refine Mir.toK (.cond rfl (fun hb71=>?_) (fun hb71=>?_))
 refine .sR fun e h=>?_
 simp only [seval,EMB]
 refine mU e (.ret fun e h=>?_) h
 cases h
 simp only [seval,FMB,Tryd.results47]
 refine .seqK (.sR fun e h=>?_)
 simp only [seval,EMB]
 refine mU e (Mir.joinO (fun v2 : Bool=>([U,U,U,.d (.int .i64 a0),U,U,U,U,U,U,U,U,U,.d (.bool v2)] ++ us 15)) (fun v2=>⟨[],[]⟩) (fun _=>rfl) ?_ ?_) h
 refine .cond rfl (fun hb73=>?_) (fun hb73=>?_)
 refine .skip fun e h=>?_
 cases h
 simp only [seval,FMB,Tryd.results47]
 refine .region fun e h=>?_
 simp only [seval,EMB]
 cases h
 simp only [seval,FMB,Tryd.results47]
 intro v2
 refine Mir.toK (.cond rfl (fun hb92=>?_) (fun hb92=>?_))
 refine .sR fun e h=>?_
 simp only [seval,EMB]
 refine mU e (.ret fun e h=>?_) h
 cases h
 simp only [seval,FMB,Tryd.results47]
 refine .seqK (.sR fun e h=>?_)
 simp only [seval,EMB]
 refine mU e (Mir.joinO (fun v3 : Bool=>([U,U,U,.d (.int .i64 a0),U,U,U,U,U,U,U,U,U,U,U,U,.d (.bool v3)] ++ us 12)) (fun v3=>⟨[],[]⟩) (fun _=>rfl) ?_ ?_) h
 refine .cond rfl (fun hb98=>?_) (fun hb98=>?_)
 refine .skip fun e h=>?_
 cases h
 simp only [seval,FMB,Tryd.results47]
 refine .sR fun e h=>?_
 simp only [seval,EMB]
 refine mU e (.cond rfl (fun hb99=>?_) (fun hb99=>?_)) h
 refine .skip fun e h=>?_
 cases h
 simp only [seval,FMB,Tryd.results47]
 refine .sR fun e h=>?_
 simp only [seval,EMB]
 refine mU e (.cond rfl (fun h1=>?_) (fun h1=>?_)) h
 refine .skip fun e h=>?_
 cases h
 simp only [seval,FMB,Tryd.results47]
 refine .sR fun e h=>?_
 simp only [seval,EMB]
 refine mU e (.cond rfl (fun h2=>?_) (fun h2=>?_)) h
 refine .skip fun e h=>?_
 cases h
 simp only [seval,FMB,Tryd.results47]
 refine .sR fun e h=>?_
 simp only [seval,EMB]
 refine mU e (.cond rfl (fun h3=>?_) (fun h3=>?_)) h
 refine .skip fun e h=>?_
 cases h
 simp only [seval,FMB,Tryd.results47]
 refine .region fun e h=>?_
 simp only [seval,EMB]
 cases h
 simp only [seval,FMB,Tryd.results47]
 intro v3
 refine Mir.toK (.cond rfl (fun h4=>?_) (fun h4=>?_))
 refine .sR fun e h=>?_
 simp only [seval,EMB]
 refine mU e (.ret fun e h=>?_) h
 cases h
 simp only [seval,FMB,Tryd.results47]
 refine .seqK (.sR fun e h=>?_)
 simp only [seval,EMB]
 refine mU e (Mir.joinO (fun v4 : Bool=>([U,U,U,.d (.int .i64 a0),U,U,U,U,U,U,U,U,U,U,U,U,U,U,U,U,U,U,U,.d (.bool v4)] ++ us 5)) (fun v4=>⟨[],[]⟩) (fun _=>rfl) ?_ ?_) h
 refine .cond rfl (fun h5=>?_) (fun h5=>?_)
 refine .skip fun e h=>?_
 cases h
 simp only [seval,FMB,Tryd.results47]
 refine .region fun e h=>?_
 simp only [seval,EMB]
 cases h
 simp only [seval,FMB,Tryd.results47]
 intro v4
 refine Mir.toK (.cond rfl (fun h6=>?_) (fun h6=>?_))
 refine .sR fun e h=>?_
 simp only [seval,EMB]
 refine mU e (.ret fun e h=>?_) h
 cases h
 simp only [seval,FMB,Tryd.results47]
 refine .seqK (.sR fun e h=>?_)
 simp only [seval,EMB]
 refine mU e (Mir.joinO (fun v5 : Bool=>[U,U,U,U,U,U,U,U,U,U,U,U,U,U,U,U,U,U,U,U,U,U,U,U,U,U,.d (.bool v5),U,U]) (fun v5=>⟨[],[]⟩) (fun _=>rfl) ?_ ?_) h
 refine .cond rfl (fun h7=>?_) (fun h7=>?_)
 refine .skip fun e h=>?_
 cases h
 simp only [seval,FMB,Tryd.results47]
 refine .region fun e h=>?_
 simp only [seval,EMB]
 cases h
 simp only [seval,FMB,Tryd.results47]
 intro v5
 refine Mir.toK (.cond rfl (fun h8=>?_) (fun h8=>?_))
 refine .sR fun e h=>?_
 simp only [seval,EMB]
 refine mU e (.ret fun e h=>?_) h
 cases h
 simp only [seval,FMB,Tryd.results47]
 refine .skip (Mir.toB (Mir.toK (.sR fun e h=>?_)))
 simp only [seval,EMB]
 refine mU e (.ret fun e h=>?_) h
 cases h
 simp only [seval,FMB,Tryd.results47]
def md_Check (a0 : ApiBlock) : Option Int := bindX (guardO (okIdx a0.Words) ( rangeX (fun (i1 : Nat) (e1 : ApiWord) (v1 : (List (Int × Bool)) × (List (Int × Bool)))=>bindX (bindX (if (e1.Letter == 71) = true then bindO (md_Group e1.Value) fun (y1 : Int)=>bindO (if (y1 == 0) = true then some true else some ((mget v1.2 y1).getD false)) fun (v2 : Bool)=>if v2 = true then some (.ret (.ret (.ret (.ret 1)))) else some (.ret (.go (v1.1,mput v1.2 y1 true))) else if (e1.Letter == 70) = true then if (decide (e1.Value < 0)) = true then some (.ret (.ret (.ret (.ret 1)))) else some (.go ()) else bindO (if (e1.Letter == 84) = true then some (e1.Letter == 84) else some (e1.Letter == 72)) fun (v3 : Bool)=>if v3 = true then if ((decide (e1.Value < 0)) || ((Int.tmod e1.Value 1000) != 0)) = true then some (.ret (.ret (.ret (.ret 1)))) else some (.go ()) else some (.go ())) fun (v4 : Unit)=>if ((mget v1.1 e1.Letter).getD false) = true then some (.ret (.ret (.ret 1))) else some (.go (mput v1.1 e1.Letter true,v1.2))) fun (v5 : (List (Int × Bool)) × (List (Int × Bool)))=>some (.go (v5.1,v5.2))) (fun (v1 : (List (Int × Bool)) × (List (Int × Bool)))=>some (.go (v1.1,v1.2))) a0.Words 0 ([],[]))) fun (v6 : (List (Int × Bool)) × (List (Int × Bool)))=>some 0
theorem md_Check_spec {a0 : ApiBlock} {y : Int} (h : md_Check a0 = some y) : Spec gP 31 [.agg [.d (.bool a0.Skip),.d (.list (List.map encApiWord a0.Words)),.d (.str a0.Comment)]] (.d (.int .i64 y)) := by
 refine spec_mir Tryd.func31 rfl (by kernel_rfl) (by kernel_rfl) (fun y : Int=>.d (.int .i64 y)) ?_ h
 unfold md_Check
 simp only [List.replicate,List.length,nS,nA,Tryd.ntmps31,SV]
 refine .sR fun e h=>?_
 simp only [seval,EMB]
 refine mU e (.seqK (.regionW fun e h=>regW.alt 0 rfl ?_)) h
 simp only [seval,EMB,w_none,w_eq]
 refine alt_makeMap .u8 (regW.of ?_)
 simp only [seval,EMB,w_none,w_eq,xMN]
 refine mU e (.seqK (.regionW fun e h=>regW.alt 0 rfl ?_)) h
 simp only [seval,EMB,w_none,w_eq]
 refine alt_makeMap .i64 (regW.of ?_)
 simp only [seval,EMB,w_none,w_eq,xMN]
 refine mU e (.seqK (.sR fun e h=>?_)) h
 simp only [seval,EMB,fld_41_1,sz_39,ag_39,und_39]
 refine mU e (Mir.join (fun v6 : (List (Int × Bool)) × (List (Int × Bool))=>(us 58)) (fun v6=>⟨[[.d (.bool a0.Skip),.d (.list (List.map encApiWord a0.Words)),.d (.str a0.Comment)],[.mapc .u8 (List.map (ekv evB) v6.1)],[.mapc .i64 (List.map (ekv evB) v6.2)]],[]⟩) (fun _=>rfl) ?_ ?_) h
 refine .block (.guard fun q1=>Mir.range (fun (i1 : Nat) (v1 : (List (Int × Bool)) × (List (Int × Bool)))=>([U,U,U,.mp 1,.mp 2,U,U,U,U,U,U,.d (.list (List.map encApiWord a0.Words)),.d (.int .i64 (a0.Words.length : Int)),.d (.int .i64 (i1 : Int))] ++ us 44)) (fun i1 v1=>⟨[[.d (.bool a0.Skip),.d (.list (List.map encApiWord a0.Words)),.d (.str a0.Comment)],[.mapc .u8 (List.map (ekv evB) v1.1)],[.mapc .i64 (List.map (ekv evB) v1.2)]],[]⟩) q1 (fun _ _=>rfl) (by simp only [seval,FMB,zNI]) (by simp only [seval,FMB,zNI]) ?_ ?_)
 intro i1 e1 v1 q2
 refine .sR fun e h=>?_
 simp only [seval,EMB,q2]
 refine mU e (.seqK (.condT rfl (.skip (Mir.toK (.seqK (Mir.join (fun v5 : (List (Int × Bool)) × (List (Int × Bool))=>([U,U,U,.mp 1,.mp 2,U,U,U,U,U,U,.d (.list (List.map encApiWord a0.Words)),.d (.int .i64 (a0.Words.length : Int)),.d (.int .i64 (i1 : Int))] ++ us 44)) (fun v5=>⟨[[.d (.bool a0.Skip),.d (.list (List.map encApiWord a0.Words)),.d (.str a0.Comment)],[.mapc .u8 (List.map (ekv evB) v5.1)],[.mapc .i64 (List.map (ekv evB) v5.2)]],[]⟩) (fun _=>rfl) ?_ ?_)))))) h
 refine .block (.sR fun e h=>?_)
 simp only [seval,EMB,und_39,sz_77,q2,Int.toNat_natCast,ag_77,zero_77]
 refine mU e (.seqK (.sR fun e h=>?_)) h
 simp only [seval,EMB,fld_77_0,sz_5,ag_5]
 refine mU e (Mir.join (fun v4 : Unit=>([U,U,U,.mp 1,.mp 2,U,.ptr 3 0,U,U,U,U,.d (.list (List.map encApiWord a0.Words)),.d (.int .i64 (a0.Words.length : Int)),.d (.int .i64 (i1 : Int))] ++ us 44)) (fun v4=>⟨[[.d (.bool a0.Skip),.d (.list (List.map encApiWord a0.Words)),.d (.str a0.Comment)],[.mapc .u8 (List.map (ekv evB) v1.1)],[.mapc .i64 (List.map (ekv evB) v1.2)],[.d (.int .u8 e1.Letter),.d (.int .i64 e1.Value)]],[]⟩) (fun _=>rfl) ?_ ?_) h
 refine .block (.sR fun e h=>?_)
 simp only [seval,EMB]
 refine mU e (.cond rfl (fun h1=>?_) (fun h1=>?_)) h
 refine .seqK (.bind fun y1 h2=>.region fun e h=>?_)
 simp only [seval,EMB,fld_77_1,sz_2,ag_2]
 refine SpecS.by (md_Group_spec h2) (by simp only [seval,FMB]) ?_
 simp only [seval,EMB]
 refine mU e (.seqK (.seqK (Mir.joinO (fun v2 : Bool=>([U,U,U,.mp 1,.mp 2,U,U,.d (.int .i64 y1),U,U,U,.d (.list (List.map encApiWord a0.Words)),.d (.int .i64 (a0.Words.length : Int)),.d (.int .i64 (i1 : Int)),U,U,U,U,U,U,U,U,U,U,U,U,U,U,U,U,.d (.bool v2)] ++ us 27)) (fun v2=>⟨[[.d (.bool a0.Skip),.d (.list (List.map encApiWord a0.Words)),.d (.str a0.Comment)],[.mapc .u8 (List.map (ekv evB) v1.1)],[.mapc .i64 (List.map (ekv evB) v1.2)],[.d (.int .u8 e1.Letter),.d (.int .i64 e1.Value)]],[]⟩) (fun _=>rfl) ?_ ?_))) h
 refine .ite (fun h3=>?_) (fun h3=>?_)
 refine .region fun e h=>?_
 simp only [seval,EMB,h3]
 cases h
 simp only [seval,FMB,h3]
 refine .regionW fun e h=>regW.alt 5 rfl ?_
 simp only [seval,EMB,w_none,w_eq,h3]
 refine alt_lookup rfl rfl rfl (by simp only [mapT,und_103,und_3]) zero_4 rfl (regW.of ?_)
 simp only [seval,EMB,w_none,w_eq,mg_B,h3]
 cases h
 simp only [seval,FMB,h3]
 intro v2
 refine Mir.toK (.cond rfl (fun h4=>?_) (fun h4=>?_))
 refine .sR fun e h=>?_
 simp only [seval,EMB]
 refine mU e (.ret fun e h=>?_) h
 cases h
 simp only [seval,FMB,Tryd.results31]
 refine .skip (Mir.toK (.seqK (.regionW fun e h=>regW.alt 2 rfl ?_)))
 simp only [seval,EMB,w_none,w_eq]
 refine alt_mapUpdate (et := 4) rfl rfl rfl rfl (by simp only [mapT,und_103,und_3]) (regW.of ?_)
 simp only [seval,EMB,w_none,w_eq,mp_B]
 refine mU e (.exit fun e h=>?_) h
 cases h
 simp only [seval,FMB,Tryd.results31]
 refine .sR fun e h=>?_
 simp only [seval,EMB]
 refine mU e (.cond rfl (fun h5=>?_) (fun h5=>?_)) h
 refine .sR fun e h=>?_
 simp only [seval,EMB,fld_77_1,sz_2,ag_2]
 refine mU e (.cond rfl (fun h6=>?_) (fun h6=>?_)) h
 refine .sR fun e h=>?_
 simp only [seval,EMB]
 refine mU e (.ret fun e h=>?_) h
 cases h
 simp only [seval,FMB,Tryd.results31]
 refine .skip fun e h=>?_
 cases h
 simp only [seval,FMB,Tryd.results31]
 refine .seqK (.sR fun e h=>?_)
 simp only [seval,EMB]
 refine mU e (Mir.joinO (fun v3 : Bool=>([U,U,U,.mp 1,.mp 2,U,.ptr 3 0,U,U,U,U,.d (.list (List.map encApiWord a0.Words)),.d (.int .i64 (a0.Words.length : Int)),.d (.int .i64 (i1 : Int)),U,U,U,U,U,U,U,U,U,U,U,U,U,U,U,U,U,U,U,U,U,U,U,U,.d (.bool v3)] ++ us 19)) (fun v3=>⟨[[.d (.bool a0.Skip),.d (.list (List.map encApiWord a0.Words)),.d (.str a0.Comment)],[.mapc .u8 (List.map (ekv evB) v1.1)],[.mapc .i64 (List.map (ekv evB) v1.2)],[.d (.int .u8 e1.Letter),.d (.int .i64 e1.Value)]],[]⟩) (fun _=>rfl) ?_ ?_) h
 refine .cond rfl (fun h7=>?_) (fun h7=>?_)
 refine .skip fun e h=>?_
 cases h
 simp only [seval,FMB,Tryd.results31]
 refine .region fun e h=>?_
 simp only [seval,EMB]
 cases h
 simp only [seval,FMB,Tryd.results31]
 intro v3
 refine Mir.toK (.cond rfl (fun h8=>?_) (fun h8=>?_))
 refine .seqK (.joinV ([U,U,U,.mp 1,.mp 2,U,.ptr 3 0,U,U,U,U,.d (.list (List.map encApiWord a0.Words)),.d (.int .i64 (a0.Words.length : Int)),.d (.int .i64 (i1 : Int)),U,U,U,U,U,U,U,U,U,U,U,U,U,U,U,U,U,U,U,U,U,U,U,U,U,U,U,U,U,U,U,U,U,U,U,.d (.bool ((decide (e1.Value < 0)) || ((Int.tmod e1.Value 1000) != 0)))] ++ us 8) ⟨[[.d (.bool a0.Skip),.d (.list (List.map encApiWord a0.Words)),.d (.str a0.Comment)],[.mapc .u8 (List.map (ekv evB) v1.1)],[.mapc .i64 (List.map (ekv evB) v1.2)],[.d (.int .u8 e1.Letter),.d (.int .i64 e1.Value)]],[]⟩ rfl ?_ ?_)
 refine SWs.region ?_
 rcases Bool.eq_false_or_eq_true (decide (e1.Value < 0)) with h9 | h9
 simp only [seval,EMB,SL,PB,fld_77_1,sz_2,ag_2,h9]
 simp only [seval,EMB,SL,PB,fld_77_1,sz_2,ag_2,h9]
 refine Mir.toK (.cond rfl (fun h10=>?_) (fun h10=>?_))
 refine .sR fun e h=>?_
 simp only [seval,EMB]
 refine mU e (.ret fun e h=>?_) h
 cases h
 simp only [seval,FMB,Tryd.results31]
 refine .skip fun e h=>?_
 cases h
 simp only [seval,FMB,Tryd.results31]
 refine .skip fun e h=>?_
 cases h
 simp only [seval,FMB,Tryd.results31]
 intro v4
 refine Mir.toK (.seqK (.seqK (.regionW fun e h=>regW.alt 3 rfl ?_)))
 simp only [seval,EMB,w_none,w_eq,fld_77_0,sz_5,ag_5]
 refine alt_lookup rfl rfl rfl (by simp only [mapT,und_102,und_5]) zero_4 rfl (regW.of ?_)
 simp only [seval,EMB,w_none,w_eq,mg_B]
 refine mU e (.cond rfl (fun h11=>?_) (fun h11=>?_)) h
 refine .sR fun e h=>?_
 simp only [seval,EMB]
 refine mU e (.ret fun e h=>?_) h
 cases h
 simp only [seval,FMB,Tryd.results31]
 refine .skip (Mir.toK (.regionW fun e h=>regW.alt 3 rfl ?_))
 simp only [seval,EMB,w_none,w_eq,fld_77_0,sz_5,ag_5]
 refine alt_mapUpdate (et := 4) rfl rfl rfl rfl (by simp only [mapT,und_102,und_5]) (regW.of ?_)
 simp only [seval,EMB,w_none,w_eq,mp_B]
 cases h
 simp only [seval,FMB,Tryd.results31]
 intro v5
 refine Mir.toK (.region fun e h=>?_)
 simp only [seval,EMB]
 cases h
 simp only [seval,FMB,Tryd.results31,q2]
 intro v1 q3
 refine .sR fun e h=>?_
 simp only [seval,EMB,q3]
 refine mU e (.seqK (.condF rfl (.exit fun e h=>?_))) h
 cases h
 simp only [seval,FMB,Tryd.results31]
 intro v6
 refine Mir.toK (.sR fun e h=>?_)
 simp only [seval,EMB]
 refine mU e (.ret fun e h=>?_) h
 cases h
 simp only [seval,FMB,Tryd.results31]
def slices_Index_int64_int64 (a0 : (List Int)) (a1 : Int) : Option Int := bindX (guardO (okIdx a0) ( rangeX (fun (i1 : Nat) (e1 : Int) (v1 : Unit)=>if (a1 == e1) = true then some (.ret (.ret (i1 : Int))) else some (.go ())) (fun (v1 : Unit)=>some (.go ())) a0 0 ())) fun (v2 : Unit)=>some (-1)
theorem slices_Index_int64_int64_spec {a0 : (List Int)} {a1 : Int} {y : Int} (h : slices_Index_int64_int64 a0 a1 = some y) : Spec gP 38 [.d (.list (List.map (eInt .i64) a0)),.d (.int .i64 a1)] (.d (.int .i64 y)) := by
 refine spec_mir Tryd.func38 rfl (by kernel_rfl) (by kernel_rfl) (fun y : Int=>.d (.int .i64 y)) ?_ h
 unfold slices_Index_int64_int64
 simp only [List.replicate,List.length,nS,nA,Tryd.ntmps38,SV]
 refine .sR fun e h=>?_
 simp only [seval,EMB,eInt]
 refine mU e (.seqK (.sR fun e h=>?_)) h
 simp only [seval,EMB,und_69,eInt]
 refine mU e (Mir.join (fun v2 : Unit=>(us 19)) (fun v2=>⟨[],[]⟩) (fun _=>rfl) ?_ ?_) h
 refine .block (.guard fun qg51=>Mir.range (fun (i1 : Nat) (v1 : Unit)=>([.d (.list (List.map (eInt .i64) a0)),.d (.int .i64 a1),U,U,U,U,U,.d (.int .i64 (a0.length : Int)),.d (.int .i64 (i1 : Int))] ++ us 10)) (fun i1 v1=>⟨[],[]⟩) qg51 (fun _ _=>rfl) (by simp only [seval,FMB,eInt,zNI]) (by simp only [seval,FMB,eInt,zNI]) ?_ ?_)
 intro i1 e1 v1 qr49
 refine .sR fun e h=>?_
 simp only [seval,EMB,qr49,eInt]
 refine mU e (.seqK (.condT rfl (.skip (Mir.toK (.seqK (.block (.sR fun e h=>?_))))))) h
 simp only [seval,EMB,eInt]
 refine mU e (.sR fun e h=>?_) h
 simp only [seval,EMB,und_69,sz_2,qr49,Int.toNat_natCast,ag_2,eInt]
 refine mU e (.cond rfl (fun hb54=>?_) (fun hb54=>?_)) h
 refine .sR fun e h=>?_
 simp only [seval,EMB,eInt]
 refine mU e (.ret fun e h=>?_) h
 cases h
 simp only [seval,FMB,eInt,Tryd.results38]
 refine .skip (Mir.toB (Mir.toK (.region fun e h=>?_)))
 simp only [seval,EMB,eInt]
 cases h
 simp only [seval,FMB,eInt,Tryd.results38,qr49]
 intro v1 qd50
 refine .sR fun e h=>?_
 simp only [seval,EMB,qd50,eInt]
 refine mU e (.seqK (.condF rfl (.exit fun e h=>?_))) h
 cases h
 simp only [seval,FMB,eInt,Tryd.results38]
 intro v2
 refine Mir.toK (.sR fun e h=>?_)
 simp only [seval,EMB,eInt]
 refine mU e (.ret fun e h=>?_) h
 cases h
 simp only [seval,FMB,eInt,Tryd.results38]
def slices_Contains_int64_int64 (a0 : (List Int)) (a1 : Int) : Option Bool := bindO (slices_Index_int64_int64 a0 a1) fun (y1 : Int)=>some (decide (y1 ≥ 0))
theorem slices_Contains_int64_int64_spec {a0 : (List Int)} {a1 : Int} {y : Bool} (h : slices_Contains_int64_int64 a0 a1 = some y) : Spec gP 20 [.d (.list (List.map (eInt .i64) a0)),.d (.int .i64 a1)] (.d (.bool y)) := by
 refine spec_mir Tryd.func20 rfl (by kernel_rfl) (by kernel_rfl) (fun y : Bool=>.d (.bool y)) ?_ h
 unfold slices_Contains_int64_int64
 simp only [List.replicate,List.length,nS,nA,Tryd.ntmps20,SV]
 refine .sR fun e h=>?_
 simp only [seval,EMB,eInt]
 refine mU e (.seqK (.bind fun y1 hy1=>.region fun e h=>?_)) h
 simp only [seval,EMB,eInt]
 refine SpecS.by (slices_Index_int64_int64_spec hy1) (by simp only [seval,FMB,eInt]) ?_
 simp only [seval,EMB,eInt]
 refine mU e (.ret fun e h=>?_) h
 cases h
 simp only [seval,FMB,eInt,Tryd.results20]
def inp_known (a0 : ApiBlock) : Option Bool := bindX (guardO (okIdx a0.Words) ( rangeX (fun (i1 : Nat) (e1 : ApiWord) (v1 : Unit)=>bindX (bindO (if (e1.Letter == 71) = true then some (e1.Letter == 71) else if (e1.Letter == 84) = true then some (e1.Letter == 84) else if (e1.Letter == 70) = true then some (e1.Letter == 70) else if (e1.Letter == 72) = true then some (e1.Letter == 72) else if (e1.Letter == 78) = true then some (e1.Letter == 78) else if (e1.Letter == 88) = true then some (e1.Letter == 88) else if (e1.Letter == 89) = true then some (e1.Letter == 89) else if (e1.Letter == 90) = true then some (e1.Letter == 90) else if (e1.Letter == 73) = true then some (e1.Letter == 73) else if (e1.Letter == 74) = true then some (e1.Letter == 74) else if (e1.Letter == 81) = true then some (e1.Letter == 81) else some (e1.Letter == 82)) fun (v2 : Bool)=>if v2 = true then some (.go ()) else if (e1.Letter == 77) = true then bindO (slices_Contains_int64_int64 [0,1000,3000,4000,5000,6000,8000,9000,30000] e1.Value) fun (y1 : Bool)=>if (!y1) = true then some (.ret (.ret (.ret false))) else some (.go ()) else if (e1.Letter == 83) = true then if (decide (e1.Value < 0)) = true then some (.ret (.ret (.ret false))) else some (.go ()) else some (.ret (.ret (.ret false)))) fun (v3 : Unit)=>some (.go ())) (fun (v1 : Unit)=>some (.go ())) a0.Words 0 ())) fun (v4 : Unit)=>some true
theorem inp_known_spec {a0 : ApiBlock} {y : Bool} (h : inp_known a0 = some y) : Spec gP 32 [.agg [.d (.bool a0.Skip),.d (.list (List.map encApiWord a0.Words)),.d (.str a0.Comment)]] (.d (.bool y)) := by
 refine spec_mir Tryd.func32 rfl (by kernel_rfl) (by kernel_rfl) (fun y : Bool=>.d (.bool y)) ?_ h
 unfold inp_known
 simp only [List.replicate,List.length,nS,nA,Tryd.ntmps32,SV]
 refine .sR fun e h=>?_
 simp only [seval,EMB,eInt]
 refine mU e (.seqK (.sR fun e h=>?_)) h
 simp only [seval,EMB,fld_41_1,sz_39,ag_39,und_39,eInt]
 refine mU e (Mir.join (fun v4 : Unit=>(us 40)) (fun v4=>⟨[[.d (.bool a0.Skip),.d (.list (List.map encApiWord a0.Words)),.d (.str a0.Comment)]],[]⟩) (fun _=>rfl) ?_ ?_) h
 refine .block (.guard fun q1=>Mir.range (fun (i1 : Nat) (v1 : Unit)=>([U,U,U,U,U,U,.d (.list (List.map encApiWord a0.Words)),.d (.int .i64 (a0.Words.length : Int)),.d (.int .i64 (i1 : Int))] ++ us 31)) (fun i1 v1=>⟨[[.d (.bool a0.Skip),.d (.list (List.map encApiWord a0.Words)),.d (.str a0.Comment)]],[]⟩) q1 (fun _ _=>rfl) (by simp only [seval,FMB,eInt,zNI]) (by simp only [seval,FMB,eInt,zNI]) ?_ ?_)
 intro i1 e1 v1 q2
 refine .sR fun e h=>?_
 simp only [seval,EMB,q2,eInt]
 refine mU e (.seqK (.condT rfl (.skip (Mir.toK (.seqK (Mir.join (fun v3 : Unit=>([U,U,U,U,U,U,.d (.list (List.map encApiWord a0.Words)),.d (.int .i64 (a0.Words.length : Int)),.d (.int .i64 (i1 : Int))] ++ us 31)) (fun v3=>⟨[[.d (.bool a0.Skip),.d (.list (List.map encApiWord a0.Words)),.d (.str a0.Comment)]],[]⟩) (fun _=>rfl) ?_ ?_)))))) h
 refine .block (.sR fun e h=>?_)
 simp only [seval,EMB,und_39,sz_77,q2,Int.toNat_natCast,ag_77,zero_77,eInt]
 refine mU e (.sR fun e h=>?_) h
 simp only [seval,EMB,fld_77_0,sz_5,ag_5,eInt]
 refine mU e (.block (.seqK (.sR fun e h=>?_))) h
 simp only [seval,EMB,eInt]
 refine mU e (Mir.joinO (fun v2 : Bool=>([U,U,U,U,.ptr 1 0,U,.d (.list (List.map encApiWord a0.Words)),.d (.int .i64 (a0.Words.length : Int)),.d (.int .i64 (i1 : Int)),U,U,U,U,.d (.int .u8 e1.Letter),.d (.bool v2)] ++ us 25)) (fun v2=>⟨[[.d (.bool a0.Skip),.d (.list (List.map encApiWord a0.Words)),.d (.str a0.Comment)],[.d (.int .u8 e1.Letter),.d (.int .i64 e1.Value)]],[]⟩) (fun _=>rfl) ?_ ?_) h
 refine .cond rfl (fun h1=>?_) (fun h1=>?_)
 refine .skip fun e h=>?_
 cases h
 simp only [seval,FMB,eInt,Tryd.results32]
 refine .sR fun e h=>?_
 simp only [seval,EMB,eInt]
 refine mU e (.cond rfl (fun h2=>?_) (fun h2=>?_)) h
 refine .skip fun e h=>?_
 cases h
 simp only [seval,FMB,eInt,Tryd.results32]
 refine .sR fun e h=>?_
 simp only [seval,EMB,eInt]
 refine mU e (.cond rfl (fun h3=>?_) (fun h3=>?_)) h
 refine .skip fun e h=>?_
 cases h
 simp only [seval,FMB,eInt,Tryd.results32]
 refine .sR fun e h=>?_
 simp only [seval,EMB,eInt]
 refine mU e (.cond rfl (fun h4=>?_) (fun h4=>?_)) h
 refine .skip fun e h=>?_
 cases h
 simp only [seval,FMB,eInt,Tryd.results32]
 refine .sR fun e h=>?_
 simp only [seval,EMB,eInt]
 refine mU e (.cond rfl (fun h5=>?_) (fun h5=>?_)) h
 refine .skip fun e h=>?_
 cases h
 simp only [seval,FMB,eInt,Tryd.results32]
 refine .sR fun e h=>?_
 simp only [seval,EMB,eInt]
 refine mU e (.cond rfl (fun h6=>?_) (fun h6=>?_)) h
 refine .skip fun e h=>?_
 cases h
 simp only [seval,FMB,eInt,Tryd.results32]
 refine .sR fun e h=>?_
 simp only [seval,EMB,eInt]
 refine mU e (.cond rfl (fun h7=>?_) (fun h7=>?_)) h
 refine .skip fun e h=>?_
 cases h
 simp only [seval,FMB,eInt,Tryd.results32]
 refine .sR fun e h=>?_
 simp only [seval,EMB,eInt]
 refine mU e (.cond rfl (fun h8=>?_) (fun h8=>?_)) h
 refine .skip fun e h=>?_
 cases h
 simp only [seval,FMB,eInt,Tryd.results32]
 refine .sR fun e h=>?_
 simp only [seval,EMB,eInt]
 refine mU e (.cond rfl (fun h9=>?_) (fun h9=>?_)) h
 refine .skip fun e h=>?_
 cases h
 simp only [seval,FMB,eInt,Tryd.results32]
 refine .sR fun e h=>?_
 simp only [seval,EMB,eInt]
 refine mU e (.cond rfl (fun h10=>?_) (fun h10=>?_)) h
 refine .skip fun e h=>?_
 cases h
 simp only [seval,FMB,eInt,Tryd.results32]
 refine .sR fun e h=>?_
 simp only [seval,EMB,eInt]
 refine mU e (.cond rfl (fun h11=>?_) (fun h11=>?_)) h
 refine .skip fun e h=>?_
 cases h
 simp only [seval,FMB,eInt,Tryd.results32]
 refine .region fun e h=>?_
 simp only [seval,EMB,eInt]
 cases h
 simp only [seval,FMB,eInt,Tryd.results32]
 intro v2
 refine Mir.toK (.cond rfl (fun h12=>?_) (fun h12=>?_))
 refine .skip fun e h=>?_
 cases h
 simp only [seval,FMB,eInt,Tryd.results32]
 refine .sR fun e h=>?_
 simp only [seval,EMB,eInt]
 refine mU e (.cond rfl (fun h13=>?_) (fun h13=>?_)) h
 refine .seqK (.bind fun y1 h14=>.region fun e h=>?_)
 simp only [seval,EMB,ag_69,sz_69,glT,fld_77_1,sz_2,ag_2,eInt]
 refine SpecS.by (slices_Contains_int64_int64_spec h14) (by simp only [seval,FMB,eInt]) ?_
 simp only [seval,EMB,eInt]
 refine mU e (.cond rfl (fun h15=>?_) (fun h15=>?_)) h
 refine .sR fun e h=>?_
 simp only [seval,EMB,eInt]
 refine mU e (.ret fun e h=>?_) h
 cases h
 simp only [seval,FMB,eInt,Tryd.results32]
 refine .skip fun e h=>?_
 cases h
 simp only [seval,FMB,eInt,Tryd.results32]
 refine .sR fun e h=>?_
 simp only [seval,EMB,eInt]
 refine mU e (.cond rfl (fun h16=>?_) (fun h16=>?_)) h
 refine .sR fun e h=>?_
 simp only [seval,EMB,fld_77_1,sz_2,ag_2,eInt]
 refine mU e (.cond rfl (fun h17=>?_) (fun h17=>?_)) h
 refine .sR fun e h=>?_
 simp only [seval,EMB,eInt]
 refine mU e (.ret fun e h=>?_) h
 cases h
 simp only [seval,FMB,eInt,Tryd.results32]
 refine .skip fun e h=>?_
 cases h
 simp only [seval,FMB,eInt,Tryd.results32]
 refine .sR fun e h=>?_
 simp only [seval,EMB,eInt]
 refine mU e (.ret fun e h=>?_) h
 cases h
 simp only [seval,FMB,eInt,Tryd.results32]
 intro v3
 refine Mir.toK (.region fun e h=>?_)
 simp only [seval,EMB,eInt]
 cases h
 simp only [seval,FMB,eInt,Tryd.results32,q2]
 intro v1 q3
 refine .sR fun e h=>?_
 simp only [seval,EMB,q3,eInt]
 refine mU e (.seqK (.condF rfl (.exit fun e h=>?_))) h
 cases h
 simp only [seval,FMB,eInt,Tryd.results32]
 intro v4
 refine Mir.toK (.sR fun e h=>?_)
 simp only [seval,EMB,eInt]
 refine mU e (.ret fun e h=>?_) h
 cases h
 simp only [seval,FMB,eInt,Tryd.results32]
def md_put (a0 : ModalState) (a1 : ApiWord) : Option ModalState := bindO (if (a1.Letter == 71) = true then bindO (bindO (md_Group a1.Value) fun (y1 : Int)=>guardO (decide (0 ≤ (IntKind.i64.wrap (y1 - 1)) ∧ (IntKind.i64.wrap (y1 - 1)) < 5)) ( if ((IntKind.i64.wrap (y1 - 1)) == 0) = true then some (ModalState.mk a1.Value a0.Distance a0.Work a0.Length a0.Return a0.Feed a0.Tool a0.Offset) else if ((IntKind.i64.wrap (y1 - 1)) == 1) = true then some (ModalState.mk a0.Motion a1.Value a0.Work a0.Length a0.Return a0.Feed a0.Tool a0.Offset) else if ((IntKind.i64.wrap (y1 - 1)) == 2) = true then some (ModalState.mk a0.Motion a0.Distance a1.Value a0.Length a0.Return a0.Feed a0.Tool a0.Offset) else if ((IntKind.i64.wrap (y1 - 1)) == 3) = true then some (ModalState.mk a0.Motion a0.Distance a0.Work a1.Value a0.Return a0.Feed a0.Tool a0.Offset) else some (ModalState.mk a0.Motion a0.Distance a0.Work a0.Length a1.Value a0.Feed a0.Tool a0.Offset))) fun (v1 : ModalState)=>some v1 else if (a1.Letter == 70) = true then some (ModalState.mk a0.Motion a0.Distance a0.Work a0.Length a0.Return a1.Value a0.Tool a0.Offset) else if (a1.Letter == 84) = true then some (ModalState.mk a0.Motion a0.Distance a0.Work a0.Length a0.Return a0.Feed a1.Value a0.Offset) else if (a1.Letter == 72) = true then some (ModalState.mk a0.Motion a0.Distance a0.Work a0.Length a0.Return a0.Feed a0.Tool a1.Value) else some a0) fun (v2 : ModalState)=>some v2
theorem md_put_spec {a0 : ModalState} {a1 : ApiWord} {y : ModalState} (h : md_put a0 a1 = some y) : Spec gP 40 [.agg [.d (.int .i64 a0.Motion),.d (.int .i64 a0.Distance),.d (.int .i64 a0.Work),.d (.int .i64 a0.Length),.d (.int .i64 a0.Return),.d (.int .i64 a0.Feed),.d (.int .i64 a0.Tool),.d (.int .i64 a0.Offset)],.agg [.d (.int .u8 a1.Letter),.d (.int .i64 a1.Value)]] (.agg [.d (.int .i64 y.Motion),.d (.int .i64 y.Distance),.d (.int .i64 y.Work),.d (.int .i64 y.Length),.d (.int .i64 y.Return),.d (.int .i64 y.Feed),.d (.int .i64 y.Tool),.d (.int .i64 y.Offset)]) := by
 refine spec_mir Tryd.func40 rfl (by kernel_rfl) (by kernel_rfl) (fun y : ModalState=>.agg [.d (.int .i64 y.Motion),.d (.int .i64 y.Distance),.d (.int .i64 y.Work),.d (.int .i64 y.Length),.d (.int .i64 y.Return),.d (.int .i64 y.Feed),.d (.int .i64 y.Tool),.d (.int .i64 y.Offset)]) ?_ h
 unfold md_put
 simp only [List.replicate,List.length,nS,nA,Tryd.ntmps40,SV]
 refine .sR fun e h=>?_
 simp only [seval,EMB,zero_34]
 refine mU e (.seqK (.sR fun e h=>?_)) h
 simp only [seval,EMB,fld_77_0,sz_5,ag_5]
 refine mU e (Mir.joinO (fun v2 : ModalState=>([U,U,.ptr 0 0,U,.ptr 2 0] ++ us 37)) (fun v2=>⟨[[.d (.int .i64 v2.Motion),.d (.int .i64 v2.Distance),.d (.int .i64 v2.Work),.d (.int .i64 v2.Length),.d (.int .i64 v2.Return),.d (.int .i64 v2.Feed),.d (.int .i64 v2.Tool),.d (.int .i64 v2.Offset)],[.d (.int .u8 a1.Letter),.d (.int .i64 a1.Value)],[.d (.int .i64 0),.d (.int .i64 0),.d (.int .i64 0),.d (.int .i64 0),.d (.int .i64 0),.d (.int .i64 0),.d (.int .i64 0),.d (.int .i64 0)]],[]⟩) (fun _=>rfl) ?_ ?_) h
 refine .block (.sR fun e h=>?_)
 simp only [seval,EMB]
 refine mU e (.cond rfl (fun hb12=>?_) (fun hb12=>?_)) h
 refine .sR fun e h=>?_
 simp only [seval,EMB,fld_34_0,sz_2,fld_34_1,fld_34_2,fld_34_3,fld_34_4,und_115,sz_114,zero_114,(oL 5)]
 refine mU e (Mir.joinO (fun v1 : ModalState=>([U,U,.ptr 0 0,U,.ptr 2 0] ++ us 37)) (fun v1=>⟨[[.d (.int .i64 v1.Motion),.d (.int .i64 v1.Distance),.d (.int .i64 v1.Work),.d (.int .i64 v1.Length),.d (.int .i64 v1.Return),.d (.int .i64 v1.Feed),.d (.int .i64 v1.Tool),.d (.int .i64 v1.Offset)],[.d (.int .u8 a1.Letter),.d (.int .i64 a1.Value)],[.d (.int .i64 0),.d (.int .i64 0),.d (.int .i64 0),.d (.int .i64 0),.d (.int .i64 0),.d (.int .i64 0),.d (.int .i64 0),.d (.int .i64 0)],[.ptr 0 0,.ptr 0 1,.ptr 0 2,.ptr 0 3,.ptr 0 4]],[]⟩) (fun _=>rfl) ?_ ?_) h
 refine .bind fun y1 hy13=>.guard fun qi14=>.ite (fun hb15=>?_) (fun hb15=>?_)
 refine .regionD [] (by kernel_rfl) fun e h=>?_
 simp only [seval,EMB,SB,fld_77_1,sz_2,ag_2,hb15]
 refine Spec.by (md_Group_spec hy13) (by simp only [seval,FMB,hb15]) ?_
 simp only [seval,EMB,SB,und_115,(eq_of_beq hb15),sz_114,ag_114,fld_77_1,sz_2,ag_2,hb15]
 cases h
 simp only [seval,FMB,hb15]
 refine .ite (fun hb16=>?_) (fun hb16=>?_)
 refine .regionD [] (by kernel_rfl) fun e h=>?_
 simp only [seval,EMB,SB,fld_77_1,sz_2,ag_2,hb15,hb16]
 refine Spec.by (md_Group_spec hy13) (by simp only [seval,FMB,hb15,hb16]) ?_
 simp only [seval,EMB,SB,und_115,(eq_of_beq hb16),sz_114,ag_114,fld_77_1,sz_2,ag_2,hb15,hb16]
 cases h
 simp only [seval,FMB,hb15,hb16]
 refine .ite (fun hb17=>?_) (fun hb17=>?_)
 refine .regionD [] (by kernel_rfl) fun e h=>?_
 simp only [seval,EMB,SB,fld_77_1,sz_2,ag_2,hb15,hb16,hb17]
 refine Spec.by (md_Group_spec hy13) (by simp only [seval,FMB,hb15,hb16,hb17]) ?_
 simp only [seval,EMB,SB,und_115,(eq_of_beq hb17),sz_114,ag_114,fld_77_1,sz_2,ag_2,hb15,hb16,hb17]
 cases h
 simp only [seval,FMB,hb15,hb16,hb17]
 refine .ite (fun hb18=>?_) (fun hb18=>?_)
 refine .regionD [] (by kernel_rfl) fun e h=>?_
 simp only [seval,EMB,SB,fld_77_1,sz_2,ag_2,hb15,hb16,hb17,hb18]
 refine Spec.by (md_Group_spec hy13) (by simp only [seval,FMB,hb15,hb16,hb17,hb18]) ?_
 simp only [seval,EMB,SB,und_115,(eq_of_beq hb18),sz_114,ag_114,fld_77_1,sz_2,ag_2,hb15,hb16,hb17,hb18]
 cases h
 simp only [seval,FMB,hb15,hb16,hb17,hb18]
 have hz19 : IntKind.i64.wrap (y1 - 1) = 4 := by have h0 := of_decide_eq_true qi14; have h1 := ne_of_beq_false hb15; have h2 := ne_of_beq_false hb16; have h3 := ne_of_beq_false hb17; have h4 := ne_of_beq_false hb18; omega
 refine .regionD [] (by kernel_rfl) fun e h=>?_
 simp only [seval,EMB,SB,fld_77_1,sz_2,ag_2,hb15,hb16,hb17,hb18]
 refine Spec.by (md_Group_spec hy13) (by simp only [seval,FMB,hb15,hb16,hb17,hb18]) ?_
 simp only [seval,EMB,SB,und_115,hz19,sz_114,ag_114,fld_77_1,sz_2,ag_2,hb15,hb16,hb17,hb18]
 cases h
 simp only [seval,FMB,hb15,hb16,hb17,hb18]
 intro v1
 intro e h
 cases h
 simp only [seval,FMB,Tryd.results40,ag_34,sz_34]
 refine .sR fun e h=>?_
 simp only [seval,EMB]
 refine mU e (.cond rfl (fun hb20=>?_) (fun hb20=>?_)) h
 refine .region fun e h=>?_
 simp only [seval,EMB,fld_77_1,sz_2,ag_2,fld_34_5]
 cases h
 simp only [seval,FMB,Tryd.results40,ag_34,sz_34]
 refine .sR fun e h=>?_
 simp only [seval,EMB]
 refine mU e (.cond rfl (fun hb21=>?_) (fun hb21=>?_)) h
 refine .region fun e h=>?_
 simp only [seval,EMB,fld_77_1,sz_2,ag_2,fld_34_6]
 cases h
 simp only [seval,FMB,Tryd.results40,ag_34,sz_34]
 refine .sR fun e h=>?_
 simp only [seval,EMB]
 refine mU e (.cond rfl (fun hb22=>?_) (fun hb22=>?_)) h
 refine .region fun e h=>?_
 simp only [seval,EMB,fld_77_1,sz_2,ag_2,fld_34_7]
 cases h
 simp only [seval,FMB,Tryd.results40,ag_34,sz_34]
 refine .skip fun e h=>?_
 cases h
 simp only [seval,FMB,Tryd.results40,ag_34,sz_34]
 intro v2
 refine Mir.toK (.sR fun e h=>?_)
 simp only [seval,EMB,ag_34,sz_34]
 refine mU e (.ret fun e h=>?_) h
 cases h
 simp only [seval,FMB,Tryd.results40,ag_34,sz_34]
def md_Apply (a0 : ModalState) (a1 : ApiBlock) : Option (ModalState × Int) := bindO (md_Check a1) fun (y1 : Int)=>if (y1 != 0) = true then some (ModalState.mk 0 0 0 0 0 0 0 0,y1) else bindO (guardO (okIdx a1.Words) ( rangeX (fun (i1 : Nat) (e1 : ApiWord) (v1 : ModalState)=>bindO (md_put v1 e1) fun (y2 : ModalState)=>some (.go y2)) (fun (v1 : ModalState)=>some v1) a1.Words 0 a0)) fun (v2 : ModalState)=>some (v2,0)
theorem md_Apply_spec {a0 : ModalState} {a1 : ApiBlock} {y : ModalState × Int} (h : md_Apply a0 a1 = some y) : Spec gP 26 [.agg [.d (.int .i64 a0.Motion),.d (.int .i64 a0.Distance),.d (.int .i64 a0.Work),.d (.int .i64 a0.Length),.d (.int .i64 a0.Return),.d (.int .i64 a0.Feed),.d (.int .i64 a0.Tool),.d (.int .i64 a0.Offset)],.agg [.d (.bool a1.Skip),.d (.list (List.map encApiWord a1.Words)),.d (.str a1.Comment)]] (.tuple [.agg [.d (.int .i64 y.1.Motion),.d (.int .i64 y.1.Distance),.d (.int .i64 y.1.Work),.d (.int .i64 y.1.Length),.d (.int .i64 y.1.Return),.d (.int .i64 y.1.Feed),.d (.int .i64 y.1.Tool),.d (.int .i64 y.1.Offset)],.d (.int .i64 y.2)]) := by
 refine spec_mir Tryd.func26 rfl (by kernel_rfl) (by kernel_rfl) (fun y : ModalState × Int=>.tuple [.agg [.d (.int .i64 y.1.Motion),.d (.int .i64 y.1.Distance),.d (.int .i64 y.1.Work),.d (.int .i64 y.1.Length),.d (.int .i64 y.1.Return),.d (.int .i64 y.1.Feed),.d (.int .i64 y.1.Tool),.d (.int .i64 y.1.Offset)],.d (.int .i64 y.2)]) ?_ h
 unfold md_Apply
 simp only [List.replicate,List.length,nS,nA,Tryd.ntmps26,SV]
 refine .sR fun e h=>?_
 simp only [seval,EMB,zero_34]
 refine mU e (.seqK (.seqK (.bind fun y1 hy1=>.region fun e h=>?_))) h
 simp only [seval,EMB,ag_41,sz_41]
 refine SpecS.by (md_Check_spec hy1) (by simp only [seval,FMB]) ?_
 simp only [seval,EMB]
 refine mU e (.sR fun e h=>?_) h
 simp only [seval,EMB]
 refine mU e (.cond rfl (fun hb3=>?_) (fun hb3=>?_)) h
 refine .sR fun e h=>?_
 simp only [seval,EMB,zero_34,pl_34,sz_34]
 refine mU e (.ret fun e h=>?_) h
 cases h
 simp only [seval,FMB,Tryd.results26,ag_34,sz_34]
 refine .skip (Mir.toK (.seqK (.sR fun e h=>?_)))
 simp only [seval,EMB,fld_41_1,sz_39,ag_39,und_39]
 refine mU e (Mir.joinO (fun v2 : ModalState=>([U,U,.ptr 0 0,U,.ptr 2 0] ++ us 22)) (fun v2=>⟨[[.d (.int .i64 v2.Motion),.d (.int .i64 v2.Distance),.d (.int .i64 v2.Work),.d (.int .i64 v2.Length),.d (.int .i64 v2.Return),.d (.int .i64 v2.Feed),.d (.int .i64 v2.Tool),.d (.int .i64 v2.Offset)],[.d (.bool a1.Skip),.d (.list (List.map encApiWord a1.Words)),.d (.str a1.Comment)],[.d (.int .i64 0),.d (.int .i64 0),.d (.int .i64 0),.d (.int .i64 0),.d (.int .i64 0),.d (.int .i64 0),.d (.int .i64 0),.d (.int .i64 0)]],[]⟩) (fun _=>rfl) ?_ ?_) h
 refine .block (.guard fun qg47=>Mir.range (fun (i1 : Nat) (v1 : ModalState)=>([U,U,.ptr 0 0,U,.ptr 2 0,U,U,U,U,U,U,U,U,U,U,U,.d (.list (List.map encApiWord a1.Words)),.d (.int .i64 (a1.Words.length : Int)),.d (.int .i64 (i1 : Int))] ++ us 8)) (fun i1 v1=>⟨[[.d (.int .i64 v1.Motion),.d (.int .i64 v1.Distance),.d (.int .i64 v1.Work),.d (.int .i64 v1.Length),.d (.int .i64 v1.Return),.d (.int .i64 v1.Feed),.d (.int .i64 v1.Tool),.d (.int .i64 v1.Offset)],[.d (.bool a1.Skip),.d (.list (List.map encApiWord a1.Words)),.d (.str a1.Comment)],[.d (.int .i64 0),.d (.int .i64 0),.d (.int .i64 0),.d (.int .i64 0),.d (.int .i64 0),.d (.int .i64 0),.d (.int .i64 0),.d (.int .i64 0)]],[]⟩) qg47 (fun _ _=>rfl) (by simp only [seval,FMB,zNI]) (by simp only [seval,FMB,zNI]) ?_ ?_)
 intro i1 e1 v1 qr45
 refine .sR fun e h=>?_
 simp only [seval,EMB,qr45]
 refine mU e (.seqK (.condT rfl (.skip (Mir.toK (.seqK (.block (.sR fun e h=>?_))))))) h
 simp only [seval,EMB,und_39,sz_77,qr45,Int.toNat_natCast,ag_77,zero_77]
 refine mU e (.bind fun y2 hy49=>.region fun e h=>?_) h
 simp only [seval,EMB,ag_34,sz_34,ag_77,sz_77]
 refine SpecS.by (md_put_spec hy49) (by simp only [seval,FMB]) ?_
 simp only [seval,EMB,sz_34]
 refine mU e (.region fun e h=>?_) h
 simp only [seval,EMB]
 cases h
 simp only [seval,FMB,Tryd.results26,ag_34,sz_34,qr45]
 intro v1 qd46
 refine .sR fun e h=>?_
 simp only [seval,EMB,qd46]
 refine mU e (.seqK (.condF rfl (.exit fun e h=>?_))) h
 cases h
 simp only [seval,FMB,Tryd.results26,ag_34,sz_34]
 intro v2
 refine Mir.toK (.sR fun e h=>?_)
 simp only [seval,EMB,ag_34,sz_34]
 refine mU e (.ret fun e h=>?_) h
 cases h
 simp only [seval,FMB,Tryd.results26,ag_34,sz_34]
def inp_cycles (a0 : Int) : Option Bool := some ((a0 == 81000) || ((a0 == 82000) || (a0 == 83000)))
theorem inp_cycles_spec {a0 : Int} {y : Bool} (h : inp_cycles a0 = some y) : Spec gP 33 [.d (.int .i64 a0)] (.d (.bool y)) := by
 refine spec_mir Tryd.func33 rfl (by kernel_rfl) (by kernel_rfl) (fun y : Bool=>.d (.bool y)) ?_ h
 unfold inp_cycles
 simp only [List.replicate,List.length,nS,nA,Tryd.ntmps33,SV]
 refine .sR fun e h=>?_
 simp only [seval,EMB]
 refine mU e (.seqK (.joinV ([U,U,.d (.bool ((a0 == 81000) || ((a0 == 82000) || (a0 == 83000))))] ++ us 10) ⟨[],[]⟩ rfl ?_ ?_)) h
 refine SWs.region ?_
 rcases Bool.eq_false_or_eq_true (a0 == 81000) with hb1 | hb1
 simp only [seval,EMB,SL,PB,hb1]
 rcases Bool.eq_false_or_eq_true (a0 == 82000) with hb2 | hb2
 simp only [seval,EMB,SL,PB,hb1,hb2]
 simp only [seval,EMB,SL,PB,hb1,hb2]
 refine Mir.toK (.ret fun e h=>?_)
 cases h
 simp only [seval,FMB,Tryd.results33]
def bk_Find (a0 : ApiBlock) (a1 : Int) : Option (Int × Bool) := bindX (guardO (okIdx a0.Words) ( rangeX (fun (i1 : Nat) (e1 : ApiWord) (v1 : Unit)=>if (e1.Letter == a1) = true then some (.ret (.ret (e1.Value,true))) else some (.go ())) (fun (v1 : Unit)=>some (.go ())) a0.Words 0 ())) fun (v2 : Unit)=>some (0,false)
theorem bk_Find_spec {a0 : ApiBlock} {a1 : Int} {y : Int × Bool} (h : bk_Find a0 a1 = some y) : Spec gP 48 [.agg [.d (.bool a0.Skip),.d (.list (List.map encApiWord a0.Words)),.d (.str a0.Comment)],.d (.int .u8 a1)] (.tuple [.d (.int .i64 y.1),.d (.bool y.2)]) := by
 refine spec_mir Tryd.func48 rfl (by kernel_rfl) (by kernel_rfl) (fun y : Int × Bool=>.tuple [.d (.int .i64 y.1),.d (.bool y.2)]) ?_ h
 unfold bk_Find
 simp only [List.replicate,List.length,nS,nA,Tryd.ntmps48,SV]
 refine .sR fun e h=>?_
 simp only [seval,EMB]
 refine mU e (.seqK (.sR fun e h=>?_)) h
 simp only [seval,EMB,fld_41_1,sz_39,ag_39,und_39]
 refine mU e (Mir.join (fun v2 : Unit=>(us 22)) (fun v2=>⟨[[.d (.bool a0.Skip),.d (.list (List.map encApiWord a0.Words)),.d (.str a0.Comment)]],[]⟩) (fun _=>rfl) ?_ ?_) h
 refine .block (.guard fun qg51=>Mir.range (fun (i1 : Nat) (v1 : Unit)=>([U,.d (.int .u8 a1),U,U,U,U,U,U,U,.d (.list (List.map encApiWord a0.Words)),.d (.int .i64 (a0.Words.length : Int)),.d (.int .i64 (i1 : Int))] ++ us 10)) (fun i1 v1=>⟨[[.d (.bool a0.Skip),.d (.list (List.map encApiWord a0.Words)),.d (.str a0.Comment)]],[]⟩) qg51 (fun _ _=>rfl) (by simp only [seval,FMB,zNI]) (by simp only [seval,FMB,zNI]) ?_ ?_)
 intro i1 e1 v1 qr49
 refine .sR fun e h=>?_
 simp only [seval,EMB,qr49]
 refine mU e (.seqK (.condT rfl (.skip (Mir.toK (.seqK (.block (.sR fun e h=>?_))))))) h
 simp only [seval,EMB,und_39,sz_77,qr49,Int.toNat_natCast,ag_77,zero_77]
 refine mU e (.sR fun e h=>?_) h
 simp only [seval,EMB,fld_77_0,sz_5,ag_5]
 refine mU e (.cond rfl (fun hb54=>?_) (fun hb54=>?_)) h
 refine .sR fun e h=>?_
 simp only [seval,EMB,fld_77_1,sz_2,ag_2]
 refine mU e (.ret fun e h=>?_) h
 cases h
 simp only [seval,FMB,Tryd.results48]
 refine .skip (Mir.toB (Mir.toK (.region fun e h=>?_)))
 simp only [seval,EMB]
 cases h
 simp only [seval,FMB,Tryd.results48,qr49]
 intro v1 qd50
 refine .sR fun e h=>?_
 simp only [seval,EMB,qd50]
 refine mU e (.seqK (.condF rfl (.exit fun e h=>?_))) h
 cases h
 simp only [seval,FMB,Tryd.results48]
 intro v2
 refine Mir.toK (.sR fun e h=>?_)
 simp only [seval,EMB]
 refine mU e (.ret fun e h=>?_) h
 cases h
 simp only [seval,FMB,Tryd.results48]
def inp_has (a0 : ApiBlock) (a1 : (List UInt8)) : Option Bool := bindX (guardO (okIdx a1) ( rangeX (fun (i1 : Nat) (c1 : UInt8) (v1 : Unit)=>bindO (bk_Find a0 (c1.toNat : Int)) fun (y1 : Int × Bool)=>if y1.2 = true then some (.ret (.ret true)) else some (.go ())) (fun (v1 : Unit)=>some (.go ())) a1 0 ())) fun (v2 : Unit)=>some false
theorem inp_has_spec {a0 : ApiBlock} {a1 : (List UInt8)} {y : Bool} (h : inp_has a0 a1 = some y) : Spec gP 34 [.agg [.d (.bool a0.Skip),.d (.list (List.map encApiWord a0.Words)),.d (.str a0.Comment)],.d (.str a1)] (.d (.bool y)) := by
 refine spec_mir Tryd.func34 rfl (by kernel_rfl) (by kernel_rfl) (fun y : Bool=>.d (.bool y)) ?_ h
 unfold inp_has
 simp only [List.replicate,List.length,nS,nA,Tryd.ntmps34,SV]
 refine .sR fun e h=>?_
 simp only [seval,EMB]
 refine mU e (.seqK (.sR fun e h=>?_)) h
 simp only [seval,EMB,und_9]
 refine mU e (Mir.join (fun v2 : Unit=>(us 23)) (fun v2=>⟨[[.d (.bool a0.Skip),.d (.list (List.map encApiWord a0.Words)),.d (.str a0.Comment)]],[]⟩) (fun _=>rfl) ?_ ?_) h
 refine .block (.guard fun qg65=>Mir.range (fun (i1 : Nat) (v1 : Unit)=>([U,.d (.str a1),.ptr 0 0,U,U,U,U,U,U,.d (.int .i64 (a1.length : Int)),.d (.int .i64 (i1 : Int))] ++ us 12)) (fun i1 v1=>⟨[[.d (.bool a0.Skip),.d (.list (List.map encApiWord a0.Words)),.d (.str a0.Comment)]],[]⟩) qg65 (fun _ _=>rfl) (by simp only [seval,FMB,zNI]) (by simp only [seval,FMB,zNI]) ?_ ?_)
 intro i1 c1 v1 qr63
 refine .sR fun e h=>?_
 simp only [seval,EMB,qr63]
 refine mU e (.seqK (.condT rfl (.skip (Mir.toK (.seqK (.block (.sR fun e h=>?_))))))) h
 simp only [seval,EMB]
 refine mU e (.seqK (.bind fun y1 hy68=>.regionD [] (by kernel_rfl) fun e h=>?_)) h
 simp only [seval,EMB,SB,ag_41,sz_41,und_9,Int.toNat_natCast,qr63]
 refine Spec.by (bk_Find_spec hy68) (by simp only [seval,FMB]) ?_
 simp only [seval,EMB,SB]
 refine mU e (.sR fun e h=>?_) h
 simp only [seval,EMB]
 refine mU e (.cond rfl (fun hb70=>?_) (fun hb70=>?_)) h
 refine .sR fun e h=>?_
 simp only [seval,EMB]
 refine mU e (.ret fun e h=>?_) h
 cases h
 simp only [seval,FMB,Tryd.results34]
 refine .skip (Mir.toB (Mir.toK (.region fun e h=>?_)))
 simp only [seval,EMB]
 cases h
 simp only [seval,FMB,Tryd.results34,qr63]
 intro v1 qd64
 refine .sR fun e h=>?_
 simp only [seval,EMB,qd64]
 refine mU e (.seqK (.condF rfl (.exit fun e h=>?_))) h
 cases h
 simp only [seval,FMB,Tryd.results34]
 intro v2
 refine Mir.toK (.sR fun e h=>?_)
 simp only [seval,EMB]
 refine mU e (.ret fun e h=>?_) h
 cases h
 simp only [seval,FMB,Tryd.results34]
def tb_slot (a0 : Int) : Option (Int × Int) := if (((Int.tmod a0 1000) != 0) || ((decide (a0 < 54000)) || (decide (a0 > 59000)))) = true then some (0,4) else some (IntKind.i64.wrap ((IntKind.i64.wrap (Int.tdiv a0 1000)) - 54),0)
theorem tb_slot_spec {a0 : Int} {y : Int × Int} (h : tb_slot a0 = some y) : Spec gP 57 [.d (.int .i64 a0)] (.tuple [.d (.int .i64 y.1),.d (.int .i64 y.2)]) := by
 refine spec_mir Tryd.func57 rfl (by kernel_rfl) (by kernel_rfl) (fun y : Int × Int=>.tuple [.d (.int .i64 y.1),.d (.int .i64 y.2)]) ?_ h
 unfold tb_slot
 simp only [List.replicate,List.length,nS,nA,Tryd.ntmps57,SV]
 refine .sR fun e h=>?_
 simp only [seval,EMB]
 refine mU e (.seqK (.seqK (.joinV [.d (.int .i64 a0),U,U,U,U,U,U,U,U,U,U,U,U,U,.d (.bool (((Int.tmod a0 1000) != 0) || ((decide (a0 < 54000)) || (decide (a0 > 59000))))),U,U,U] ⟨[],[]⟩ rfl ?_ ?_))) h
 refine SWs.region ?_
 rcases Bool.eq_false_or_eq_true ((Int.tmod a0 1000) != 0) with hb1 | hb1
 simp only [seval,EMB,SL,PB,hb1]
 rcases Bool.eq_false_or_eq_true (decide (a0 < 54000)) with hb2 | hb2
 simp only [seval,EMB,SL,PB,hb1,hb2]
 simp only [seval,EMB,SL,PB,hb1,hb2]
 refine Mir.toK (.cond rfl (fun hb4=>?_) (fun hb4=>?_))
 refine .sR fun e h=>?_
 simp only [seval,EMB]
 refine mU e (.ret fun e h=>?_) h
 cases h
 simp only [seval,FMB,Tryd.results57]
 refine .skip (Mir.toK (.sR fun e h=>?_))
 simp only [seval,EMB]
 refine mU e (.ret fun e h=>?_) h
 cases h
 simp only [seval,FMB,Tryd.results57]
def cmp_isNaN_int64 (a0 : Int) : Option Bool := some (a0 != a0)
theorem cmp_isNaN_int64_spec {a0 : Int} {y : Bool} (h : cmp_isNaN_int64 a0 = some y) : Spec gP 80 [.d (.int .i64 a0)] (.d (.bool y)) := by
 refine spec_mir Tryd.func80 rfl (by kernel_rfl) (by kernel_rfl) (fun y : Bool=>.d (.bool y)) ?_ h
 unfold cmp_isNaN_int64
 simp only [List.replicate,List.length,nS,nA,Tryd.ntmps80,SV]
 refine .sR fun e h=>?_
 simp only [seval,EMB]
 refine mU e (.sR fun e h=>?_) h
 simp only [seval,EMB]
 refine mU e (.ret fun e h=>?_) h
 cases h
 simp only [seval,FMB,Tryd.results80]
def cmp_Compare_int64 (a0 : Int) (a1 : Int) : Option Int := bindO (cmp_isNaN_int64 a0) fun (y1 : Bool)=>bindO (cmp_isNaN_int64 a1) fun (y2 : Bool)=>if y1 = true then if y2 = true then some 0 else some (-1) else if y2 = true then some 1 else if (decide (a0 < a1)) = true then some (-1) else if (decide (a0 > a1)) = true then some 1 else some 0
theorem cmp_Compare_int64_spec {a0 : Int} {a1 : Int} {y : Int} (h : cmp_Compare_int64 a0 a1 = some y) : Spec gP 76 [.d (.int .i64 a0),.d (.int .i64 a1)] (.d (.int .i64 y)) := by
 refine spec_mir Tryd.func76 rfl (by kernel_rfl) (by kernel_rfl) (fun y : Int=>.d (.int .i64 y)) ?_ h
 unfold cmp_Compare_int64
 simp only [List.replicate,List.length,nS,nA,Tryd.ntmps76,SV]
 refine .sR fun e h=>?_
 simp only [seval,EMB]
 refine mU e (.seqK (.bind fun y1 hy1=>.region fun e h=>?_)) h
 simp only [seval,EMB]
 refine SpecS.by (cmp_isNaN_int64_spec hy1) (by simp only [seval,FMB]) ?_
 simp only [seval,EMB]
 refine mU e (.seqK (.bind fun y2 hy2=>.region fun e h=>?_)) h
 simp only [seval,EMB]
 refine SpecS.by (cmp_isNaN_int64_spec hy2) (by simp only [seval,FMB]) ?_
 simp only [seval,EMB]
 refine mU e (.seqK (.sR fun e h=>?_)) h
 simp only [seval,EMB]
 refine mU e (.cond rfl (fun hb6=>?_) (fun hb6=>?_)) h
 refine .seqK (.sR fun e h=>?_)
 simp only [seval,EMB]
 refine mU e (.cond rfl (fun hb8=>?_) (fun hb8=>?_)) h
 refine .sR fun e h=>?_
 simp only [seval,EMB]
 refine mU e (.ret fun e h=>?_) h
 cases h
 simp only [seval,FMB,Tryd.results76]
 refine .skip (Mir.toK (.sR fun e h=>?_))
 simp only [seval,EMB]
 refine mU e (.ret fun e h=>?_) h
 cases h
 simp only [seval,FMB,Tryd.results76]
 refine .skip (Mir.toK (.seqK (.sR fun e h=>?_)))
 simp only [seval,EMB]
 refine mU e (.cond rfl (fun hb10=>?_) (fun hb10=>?_)) h
 refine .sR fun e h=>?_
 simp only [seval,EMB]
 refine mU e (.ret fun e h=>?_) h
 cases h
 simp only [seval,FMB,Tryd.results76]
 refine .skip (Mir.toK (.seqK (.sR fun e h=>?_)))
 simp only [seval,EMB]
 refine mU e (.cond rfl (fun hb12=>?_) (fun hb12=>?_)) h
 refine .sR fun e h=>?_
 simp only [seval,EMB]
 refine mU e (.ret fun e h=>?_) h
 cases h
 simp only [seval,FMB,Tryd.results76]
 refine .skip (Mir.toK (.seqK (.sR fun e h=>?_)))
 simp only [seval,EMB]
 refine mU e (.cond rfl (fun hb14=>?_) (fun hb14=>?_)) h
 refine .sR fun e h=>?_
 simp only [seval,EMB]
 refine mU e (.ret fun e h=>?_) h
 cases h
 simp only [seval,FMB,Tryd.results76]
 refine .skip (Mir.toK (.sR fun e h=>?_))
 simp only [seval,EMB]
 refine mU e (.ret fun e h=>?_) h
 cases h
 simp only [seval,FMB,Tryd.results76]
def tb_find_c1 (a0 : TableLength) (a1 : Int) : Option Int := bindO (cmp_Compare_int64 a0.Number a1) fun (y1 : Int)=>some y1
theorem tb_find_c1_spec {a0 : TableLength} {a1 : Int} {y : Int} (h : tb_find_c1 a0 a1 = some y) : Spec gP 75 [.agg [.d (.int .i64 a0.Number),.d (.int .i64 a0.Length)],.d (.int .i64 a1)] (.d (.int .i64 y)) := by
 refine spec_mir Tryd.func75 rfl (by kernel_rfl) (by kernel_rfl) (fun y : Int=>.d (.int .i64 y)) ?_ h
 unfold tb_find_c1
 simp only [List.replicate,List.length,nS,nA,Tryd.ntmps75,SV]
 refine .sR fun e h=>?_
 simp only [seval,EMB]
 refine mU e (.seqK (.bind fun y1 hy1=>.region fun e h=>?_)) h
 simp only [seval,EMB,fld_73_0,sz_2,ag_2]
 refine SpecS.by (cmp_Compare_int64_spec hy1) (by simp only [seval,FMB]) ?_
 simp only [seval,EMB]
 refine mU e (.ret fun e h=>?_) h
 cases h
 simp only [seval,FMB,Tryd.results75]
def tb_find (a0 : TableTable) (a1 : Int) : Option (Int × Bool) := bindO (bindO (loopX (fun (v1 : Int × Int)=>if (decide (v1.1 < v1.2)) = true then bindO (gt a0.Lengths (IntKind.i64.wrap (shrI .u64 (IntKind.u64.wrap (IntKind.i64.wrap (v1.1 + v1.2))) 1))) fun (e1 : TableLength)=>bindO (tb_find_c1 e1 a1) fun (y1 : Int)=>if (decide (y1 < 0)) = true then some (.go (IntKind.i64.wrap ((IntKind.i64.wrap (shrI .u64 (IntKind.u64.wrap (IntKind.i64.wrap (v1.1 + v1.2))) 1)) + 1),v1.2)) else some (.go (v1.1,IntKind.i64.wrap (shrI .u64 (IntKind.u64.wrap (IntKind.i64.wrap (v1.1 + v1.2))) 1))) else some (.ret v1.1)) fuel (0,(a0.Lengths.length : Int))) fun (v2 : Int)=>bindO (if (decide (v2 < (a0.Lengths.length : Int))) = true then bindO (gt a0.Lengths v2) fun (e2 : TableLength)=>bindO (tb_find_c1 e2 a1) fun (y2 : Int)=>some (y2 == 0) else some false) fun (v3 : Bool)=>some (v2,v3)) fun (v4 : Int × Bool)=>some (v4.1,v4.2)
theorem tb_find_spec {a0 : TableTable} {a1 : Int} {y : Int × Bool} (h : tb_find a0 a1 = some y) : Spec gP 63 [.agg [.d (.int .i64 a0.Work.e0.X),.d (.int .i64 a0.Work.e0.Y),.d (.int .i64 a0.Work.e0.Z),.d (.int .i64 a0.Work.e1.X),.d (.int .i64 a0.Work.e1.Y),.d (.int .i64 a0.Work.e1.Z),.d (.int .i64 a0.Work.e2.X),.d (.int .i64 a0.Work.e2.Y),.d (.int .i64 a0.Work.e2.Z),.d (.int .i64 a0.Work.e3.X),.d (.int .i64 a0.Work.e3.Y),.d (.int .i64 a0.Work.e3.Z),.d (.int .i64 a0.Work.e4.X),.d (.int .i64 a0.Work.e4.Y),.d (.int .i64 a0.Work.e4.Z),.d (.int .i64 a0.Work.e5.X),.d (.int .i64 a0.Work.e5.Y),.d (.int .i64 a0.Work.e5.Z),.d (.list (List.map encTableLength a0.Lengths))],.d (.int .i64 a1)] (.tuple [.d (.int .i64 y.1),.d (.bool y.2)]) := by
 refine spec_mir Tryd.func63 rfl (by kernel_rfl) (by kernel_rfl) (fun y : Int × Bool=>.tuple [.d (.int .i64 y.1),.d (.bool y.2)]) ?_ h
 unfold tb_find
 simp only [List.replicate,List.length,nS,nA,Tryd.ntmps63,SV]
 refine .sR fun e h=>?_
 simp only [seval,EMB]
 refine mU e (.seqK (.bind fun v4 hv34=>.region fun e h=>?_)) h
 simp only [seval,EMB,fld_49_1,sz_47,ag_47]
 refine SpecS.inl Tryd.func74 rfl (by kernel_rfl) (by kernel_rfl) (fun v4 : Int × Bool=>.tuple [.d (.int .i64 v4.1),.d (.bool v4.2)]) (fun v4=>⟨[[.d (.int .i64 a0.Work.e0.X),.d (.int .i64 a0.Work.e0.Y),.d (.int .i64 a0.Work.e0.Z),.d (.int .i64 a0.Work.e1.X),.d (.int .i64 a0.Work.e1.Y),.d (.int .i64 a0.Work.e1.Z),.d (.int .i64 a0.Work.e2.X),.d (.int .i64 a0.Work.e2.Y),.d (.int .i64 a0.Work.e2.Z),.d (.int .i64 a0.Work.e3.X),.d (.int .i64 a0.Work.e3.Y),.d (.int .i64 a0.Work.e3.Z),.d (.int .i64 a0.Work.e4.X),.d (.int .i64 a0.Work.e4.Y),.d (.int .i64 a0.Work.e4.Z),.d (.int .i64 a0.Work.e5.X),.d (.int .i64 a0.Work.e5.Y),.d (.int .i64 a0.Work.e5.Z),.d (.list (List.map encTableLength a0.Lengths))]],[]⟩) hv34 rfl ?_ ?_
 simp only [List.replicate,List.length,nS,nA,Tryd.ntmps74,SV]
 refine .sR fun e h=>?_
 simp only [seval,EMB]
 refine mU e (.sR fun e h=>?_) h
 simp only [seval,EMB,und_47]
 refine mU e (.sR fun e h=>?_) h
 simp only [seval,EMB]
 refine mU e (.seqK (Mir.joinO (fun v2 : Int=>([.d (.list (List.map encTableLength a0.Lengths)),.d (.int .i64 a1),.fn 75 [],U,U,U,U,U,.d (.int .i64 (a0.Lengths.length : Int)),.d (.int .i64 v2)] ++ us 39)) (fun v2=>⟨[[.d (.int .i64 a0.Work.e0.X),.d (.int .i64 a0.Work.e0.Y),.d (.int .i64 a0.Work.e0.Z),.d (.int .i64 a0.Work.e1.X),.d (.int .i64 a0.Work.e1.Y),.d (.int .i64 a0.Work.e1.Z),.d (.int .i64 a0.Work.e2.X),.d (.int .i64 a0.Work.e2.Y),.d (.int .i64 a0.Work.e2.Z),.d (.int .i64 a0.Work.e3.X),.d (.int .i64 a0.Work.e3.Y),.d (.int .i64 a0.Work.e3.Z),.d (.int .i64 a0.Work.e4.X),.d (.int .i64 a0.Work.e4.Y),.d (.int .i64 a0.Work.e4.Z),.d (.int .i64 a0.Work.e5.X),.d (.int .i64 a0.Work.e5.Y),.d (.int .i64 a0.Work.e5.Z),.d (.list (List.map encTableLength a0.Lengths))]],[]⟩) (fun _=>rfl) ?_ ?_)) h
 refine .block (Mir.loop (fun v1 : Int × Int=>([.d (.list (List.map encTableLength a0.Lengths)),.d (.int .i64 a1),.fn 75 [],U,U,U,U,U,.d (.int .i64 (a0.Lengths.length : Int)),.d (.int .i64 v1.1),.d (.int .i64 v1.2)] ++ us 38)) (fun v1=>⟨[[.d (.int .i64 a0.Work.e0.X),.d (.int .i64 a0.Work.e0.Y),.d (.int .i64 a0.Work.e0.Z),.d (.int .i64 a0.Work.e1.X),.d (.int .i64 a0.Work.e1.Y),.d (.int .i64 a0.Work.e1.Z),.d (.int .i64 a0.Work.e2.X),.d (.int .i64 a0.Work.e2.Y),.d (.int .i64 a0.Work.e2.Z),.d (.int .i64 a0.Work.e3.X),.d (.int .i64 a0.Work.e3.Y),.d (.int .i64 a0.Work.e3.Z),.d (.int .i64 a0.Work.e4.X),.d (.int .i64 a0.Work.e4.Y),.d (.int .i64 a0.Work.e4.Z),.d (.int .i64 a0.Work.e5.X),.d (.int .i64 a0.Work.e5.Y),.d (.int .i64 a0.Work.e5.Z),.d (.list (List.map encTableLength a0.Lengths))]],[]⟩) (fun _=>rfl) (by simp only [seval,FMB]) (by simp only [seval,FMB]) fun v1=>.seqK (.sR fun e h=>?_))
 simp only [seval,EMB]
 refine mU e (.cond rfl (fun hb61=>?_) (fun hb61=>?_)) h
 refine .skip (Mir.toK (.block (.sR fun e h=>?_)))
 simp only [seval,EMB,und_3,und_157]
 refine mU e (.seqK (.bind fun e1 q62=>?_)) h
 replace q62 := gt_ok q62
 refine .bind fun y1 hy63=>.region fun e h=>?_
 simp only [seval,EMB,und_47,sz_73,q62,ag_73]
 refine SpecS.by (tb_find_c1_spec hy63) (by simp only [seval,FMB]) ?_
 simp only [seval,EMB]
 refine mU e (.cond rfl (fun hb64=>?_) (fun hb64=>?_)) h
 refine .region fun e h=>?_
 simp only [seval,EMB]
 cases h
 simp only [seval,FMB,Tryd.results74]
 refine .region fun e h=>?_
 simp only [seval,EMB]
 cases h
 simp only [seval,FMB,Tryd.results74]
 refine .exit fun e h=>?_
 cases h
 simp only [seval,FMB,Tryd.results74]
 intro v2
 refine Mir.toK (.seqK (Mir.joinO (fun v3 : Bool=>([U,U,U,U,U,U,.d (.int .i64 v2),.d (.bool v3)] ++ us 41)) (fun v3=>⟨[[.d (.int .i64 a0.Work.e0.X),.d (.int .i64 a0.Work.e0.Y),.d (.int .i64 a0.Work.e0.Z),.d (.int .i64 a0.Work.e1.X),.d (.int .i64 a0.Work.e1.Y),.d (.int .i64 a0.Work.e1.Z),.d (.int .i64 a0.Work.e2.X),.d (.int .i64 a0.Work.e2.Y),.d (.int .i64 a0.Work.e2.Z),.d (.int .i64 a0.Work.e3.X),.d (.int .i64 a0.Work.e3.Y),.d (.int .i64 a0.Work.e3.Z),.d (.int .i64 a0.Work.e4.X),.d (.int .i64 a0.Work.e4.Y),.d (.int .i64 a0.Work.e4.Z),.d (.int .i64 a0.Work.e5.X),.d (.int .i64 a0.Work.e5.Y),.d (.int .i64 a0.Work.e5.Z),.d (.list (List.map encTableLength a0.Lengths))]],[]⟩) (fun _=>rfl) ?_ ?_))
 refine .ite (fun hb65=>?_) (fun hb65=>?_)
 refine .bind fun e2 q66=>?_
 replace q66 := gt_ok q66
 refine .bind fun y2 hy67=>.region fun e h=>?_
 simp only [seval,EMB,und_47,sz_73,q66,ag_73,hb65]
 refine SpecS.by (tb_find_c1_spec hy67) (by simp only [seval,FMB,hb65]) ?_
 simp only [seval,EMB,hb65]
 cases h
 simp only [seval,FMB,hb65]
 refine .region fun e h=>?_
 simp only [seval,EMB,hb65]
 cases h
 simp only [seval,FMB,hb65]
 intro v3
 refine Mir.toK (.ret fun e h=>?_)
 cases h
 simp only [seval,FMB,Tryd.results74]
 simp only [seval,EMB]
 refine mU e (.ret fun e h=>?_) h
 cases h
 simp only [seval,FMB,Tryd.results63]
def tb_length (a0 : TableTable) (a1 : Int) : Option (Int × Int) := if (a1 == 0) = true then some (0,0) else bindO (tb_find (TableTable.mk a0.Work a0.Lengths) a1) fun (y1 : Int × Bool)=>if (!y1.2) = true then some (0,4) else bindO (gt a0.Lengths y1.1) fun (e1 : TableLength)=>some (e1.Length,0)
theorem tb_length_spec {a0 : TableTable} {a1 : Int} {y : Int × Int} (h : tb_length a0 a1 = some y) : Spec gP 58 [.agg [.d (.int .i64 a0.Work.e0.X),.d (.int .i64 a0.Work.e0.Y),.d (.int .i64 a0.Work.e0.Z),.d (.int .i64 a0.Work.e1.X),.d (.int .i64 a0.Work.e1.Y),.d (.int .i64 a0.Work.e1.Z),.d (.int .i64 a0.Work.e2.X),.d (.int .i64 a0.Work.e2.Y),.d (.int .i64 a0.Work.e2.Z),.d (.int .i64 a0.Work.e3.X),.d (.int .i64 a0.Work.e3.Y),.d (.int .i64 a0.Work.e3.Z),.d (.int .i64 a0.Work.e4.X),.d (.int .i64 a0.Work.e4.Y),.d (.int .i64 a0.Work.e4.Z),.d (.int .i64 a0.Work.e5.X),.d (.int .i64 a0.Work.e5.Y),.d (.int .i64 a0.Work.e5.Z),.d (.list (List.map encTableLength a0.Lengths))],.d (.int .i64 a1)] (.tuple [.d (.int .i64 y.1),.d (.int .i64 y.2)]) := by
 refine spec_mir Tryd.func58 rfl (by kernel_rfl) (by kernel_rfl) (fun y : Int × Int=>.tuple [.d (.int .i64 y.1),.d (.int .i64 y.2)]) ?_ h
 unfold tb_length
 simp only [List.replicate,List.length,nS,nA,Tryd.ntmps58,SV]
 refine .sR fun e h=>?_
 simp only [seval,EMB]
 refine mU e (.seqK (.sR fun e h=>?_)) h
 simp only [seval,EMB]
 refine mU e (.cond rfl (fun hb2=>?_) (fun hb2=>?_)) h
 refine .sR fun e h=>?_
 simp only [seval,EMB]
 refine mU e (.ret fun e h=>?_) h
 cases h
 simp only [seval,FMB,Tryd.results58]
 refine .skip (Mir.toK (.seqK (.bind fun y1 hy3=>.region fun e h=>?_)))
 simp only [seval,EMB,ag_49,sz_49]
 refine SpecS.by (tb_find_spec hy3) (by simp only [seval,FMB]) ?_
 simp only [seval,EMB]
 refine mU e (.seqK (.sR fun e h=>?_)) h
 simp only [seval,EMB]
 refine mU e (.cond rfl (fun hb5=>?_) (fun hb5=>?_)) h
 refine .sR fun e h=>?_
 simp only [seval,EMB]
 refine mU e (.ret fun e h=>?_) h
 cases h
 simp only [seval,FMB,Tryd.results58]
 refine .skip (Mir.toK (.seqK (.bind fun e1 q6=>?_)))
 replace q6 := gt_ok q6
 refine .region fun e h=>?_
 simp only [seval,EMB,fld_49_1,sz_47,ag_47,und_47,sz_73,q6,fld_73_1,sz_2,ag_2]
 refine mU e (.ret fun e h=>?_) h
 cases h
 simp only [seval,FMB,Tryd.results58]
def tb_offset (a0 : TableTable) (a1 : Int) (a2 : Int) : Option (ApiPos × Int) := bindO (tb_Valid a0) fun (y1 : Int)=>if (y1 != 0) = true then some (ApiPos.mk 0 0 0,y1) else bindO (tb_slot a1) fun (y2 : Int × Int)=>bindO (tb_length (TableTable.mk a0.Work a0.Lengths) a2) fun (y3 : Int × Int)=>if ((y2.2 != 0) || (y3.2 != 0)) = true then some (ApiPos.mk 0 0 0,4) else bindO (guardO (decide (0 ≤ y2.1 ∧ y2.1 < 6)) ( if (y2.1 == 0) = true then some a0.Work.e0 else if (y2.1 == 1) = true then some a0.Work.e1 else if (y2.1 == 2) = true then some a0.Work.e2 else if (y2.1 == 3) = true then some a0.Work.e3 else if (y2.1 == 4) = true then some a0.Work.e4 else some a0.Work.e5)) fun (v1 : ApiPos)=>some (ApiPos.mk v1.X v1.Y (IntKind.i64.wrap (v1.Z + y3.1)),0)
theorem tb_offset_spec {a0 : TableTable} {a1 : Int} {a2 : Int} {y : ApiPos × Int} (h : tb_offset a0 a1 a2 = some y) : Spec gP 49 [.agg [.d (.int .i64 a0.Work.e0.X),.d (.int .i64 a0.Work.e0.Y),.d (.int .i64 a0.Work.e0.Z),.d (.int .i64 a0.Work.e1.X),.d (.int .i64 a0.Work.e1.Y),.d (.int .i64 a0.Work.e1.Z),.d (.int .i64 a0.Work.e2.X),.d (.int .i64 a0.Work.e2.Y),.d (.int .i64 a0.Work.e2.Z),.d (.int .i64 a0.Work.e3.X),.d (.int .i64 a0.Work.e3.Y),.d (.int .i64 a0.Work.e3.Z),.d (.int .i64 a0.Work.e4.X),.d (.int .i64 a0.Work.e4.Y),.d (.int .i64 a0.Work.e4.Z),.d (.int .i64 a0.Work.e5.X),.d (.int .i64 a0.Work.e5.Y),.d (.int .i64 a0.Work.e5.Z),.d (.list (List.map encTableLength a0.Lengths))],.d (.int .i64 a1),.d (.int .i64 a2)] (.tuple [.agg [.d (.int .i64 y.1.X),.d (.int .i64 y.1.Y),.d (.int .i64 y.1.Z)],.d (.int .i64 y.2)]) := by
 refine spec_mir Tryd.func49 rfl (by kernel_rfl) (by kernel_rfl) (fun y : ApiPos × Int=>.tuple [.agg [.d (.int .i64 y.1.X),.d (.int .i64 y.1.Y),.d (.int .i64 y.1.Z)],.d (.int .i64 y.2)]) ?_ h
 unfold tb_offset
 simp only [List.replicate,List.length,nS,nA,Tryd.ntmps49,SV]
 refine .sR fun e h=>?_
 simp only [seval,EMB,zero_24]
 refine mU e (.seqK (.seqK (.bind fun y1 hy1=>.region fun e h=>?_))) h
 simp only [seval,EMB,ag_49,sz_49]
 refine SpecS.by (tb_Valid_spec hy1) (by simp only [seval,FMB]) ?_
 simp only [seval,EMB]
 refine mU e (.sR fun e h=>?_) h
 simp only [seval,EMB]
 refine mU e (.cond rfl (fun hb3=>?_) (fun hb3=>?_)) h
 refine .sR fun e h=>?_
 simp only [seval,EMB,zero_24,pl_24,sz_24]
 refine mU e (.ret fun e h=>?_) h
 cases h
 simp only [seval,FMB,Tryd.results49,ag_24,sz_24]
 refine .skip (Mir.toK (.seqK (.bind fun y2 hy4=>.region fun e h=>?_)))
 simp only [seval,EMB]
 refine SpecS.by (tb_slot_spec hy4) (by simp only [seval,FMB]) ?_
 simp only [seval,EMB]
 refine mU e (.seqK (.bind fun y3 hy5=>.region fun e h=>?_)) h
 simp only [seval,EMB,ag_49,sz_49]
 refine SpecS.by (tb_length_spec hy5) (by simp only [seval,FMB]) ?_
 simp only [seval,EMB]
 refine mU e (.seqK (.seqK (.joinV ([U,U,U,.ptr 0 0,U,U,.ptr 1 0,U,U,.d (.int .i64 y2.1),U,.d (.int .i64 y3.1),U,U,U,U,U,U,U,U,U,U,U,U,U,U,U,U,U,U,U,U,U,U,U,U,.d (.bool ((y2.2 != 0) || (y3.2 != 0)))] ++ us 11) ⟨[[.d (.int .i64 a0.Work.e0.X),.d (.int .i64 a0.Work.e0.Y),.d (.int .i64 a0.Work.e0.Z),.d (.int .i64 a0.Work.e1.X),.d (.int .i64 a0.Work.e1.Y),.d (.int .i64 a0.Work.e1.Z),.d (.int .i64 a0.Work.e2.X),.d (.int .i64 a0.Work.e2.Y),.d (.int .i64 a0.Work.e2.Z),.d (.int .i64 a0.Work.e3.X),.d (.int .i64 a0.Work.e3.Y),.d (.int .i64 a0.Work.e3.Z),.d (.int .i64 a0.Work.e4.X),.d (.int .i64 a0.Work.e4.Y),.d (.int .i64 a0.Work.e4.Z),.d (.int .i64 a0.Work.e5.X),.d (.int .i64 a0.Work.e5.Y),.d (.int .i64 a0.Work.e5.Z),.d (.list (List.map encTableLength a0.Lengths))],[.d (.int .i64 0),.d (.int .i64 0),.d (.int .i64 0)]],[]⟩ rfl ?_ ?_))) h
 refine SWs.region ?_
 rcases Bool.eq_false_or_eq_true (y2.2 != 0) with hb6 | hb6
 simp only [seval,EMB,SL,PB,hb6]
 simp only [seval,EMB,SL,PB,hb6]
 refine Mir.toK (.cond rfl (fun hb8=>?_) (fun hb8=>?_))
 refine .sR fun e h=>?_
 simp only [seval,EMB,zero_24,pl_24,sz_24]
 refine mU e (.ret fun e h=>?_) h
 cases h
 simp only [seval,FMB,Tryd.results49,ag_24,sz_24]
 refine .skip (Mir.toK (.seqK (Mir.joinO (fun v1 : ApiPos=>([U,U,U,U,U,U,.ptr 1 0,U,U,U,U,.d (.int .i64 y3.1),U,.ptr 2 0] ++ us 34)) (fun v1=>⟨[[.d (.int .i64 a0.Work.e0.X),.d (.int .i64 a0.Work.e0.Y),.d (.int .i64 a0.Work.e0.Z),.d (.int .i64 a0.Work.e1.X),.d (.int .i64 a0.Work.e1.Y),.d (.int .i64 a0.Work.e1.Z),.d (.int .i64 a0.Work.e2.X),.d (.int .i64 a0.Work.e2.Y),.d (.int .i64 a0.Work.e2.Z),.d (.int .i64 a0.Work.e3.X),.d (.int .i64 a0.Work.e3.Y),.d (.int .i64 a0.Work.e3.Z),.d (.int .i64 a0.Work.e4.X),.d (.int .i64 a0.Work.e4.Y),.d (.int .i64 a0.Work.e4.Z),.d (.int .i64 a0.Work.e5.X),.d (.int .i64 a0.Work.e5.Y),.d (.int .i64 a0.Work.e5.Z),.d (.list (List.map encTableLength a0.Lengths))],[.d (.int .i64 0),.d (.int .i64 0),.d (.int .i64 0)],[.d (.int .i64 v1.X),.d (.int .i64 v1.Y),.d (.int .i64 v1.Z)]],[]⟩) (fun _=>rfl) ?_ ?_)))
 refine .guard fun qi9=>.ite (fun hb10=>?_) (fun hb10=>?_)
 refine .region fun e h=>?_
 simp only [seval,EMB,fld_49_0,sz_25,und_25,(eq_of_beq hb10),sz_24,ag_24,zero_24,hb10]
 cases h
 simp only [seval,FMB,hb10]
 refine .ite (fun hb11=>?_) (fun hb11=>?_)
 refine .region fun e h=>?_
 simp only [seval,EMB,fld_49_0,sz_25,und_25,(eq_of_beq hb11),sz_24,ag_24,zero_24,hb10,hb11]
 cases h
 simp only [seval,FMB,hb10,hb11]
 refine .ite (fun hb12=>?_) (fun hb12=>?_)
 refine .region fun e h=>?_
 simp only [seval,EMB,fld_49_0,sz_25,und_25,(eq_of_beq hb12),sz_24,ag_24,zero_24,hb10,hb11,hb12]
 cases h
 simp only [seval,FMB,hb10,hb11,hb12]
 refine .ite (fun hb13=>?_) (fun hb13=>?_)
 refine .region fun e h=>?_
 simp only [seval,EMB,fld_49_0,sz_25,und_25,(eq_of_beq hb13),sz_24,ag_24,zero_24,hb10,hb11,hb12,hb13]
 cases h
 simp only [seval,FMB,hb10,hb11,hb12,hb13]
 refine .ite (fun hb14=>?_) (fun hb14=>?_)
 refine .region fun e h=>?_
 simp only [seval,EMB,fld_49_0,sz_25,und_25,(eq_of_beq hb14),sz_24,ag_24,zero_24,hb10,hb11,hb12,hb13,hb14]
 cases h
 simp only [seval,FMB,hb10,hb11,hb12,hb13,hb14]
 have hz15 : y2.1 = 5 := by have h0 := of_decide_eq_true qi9; have h1 := ne_of_beq_false hb10; have h2 := ne_of_beq_false hb11; have h3 := ne_of_beq_false hb12; have h4 := ne_of_beq_false hb13; have h5 := ne_of_beq_false hb14; omega
 refine .region fun e h=>?_
 simp only [seval,EMB,fld_49_0,sz_25,und_25,hz15,sz_24,ag_24,zero_24,hb10,hb11,hb12,hb13,hb14]
 cases h
 simp only [seval,FMB,hb10,hb11,hb12,hb13,hb14]
 intro v1
 refine Mir.toK (.sR fun e h=>?_)
 simp only [seval,EMB,fld_24_2,sz_2,ag_2]
 refine mU e (.sR fun e h=>?_) h
 simp only [seval,EMB,ag_24,sz_24]
 refine mU e (.ret fun e h=>?_) h
 cases h
 simp only [seval,FMB,Tryd.results49,ag_24,sz_24]
def tb_moved (a0 : ApiPos) (a1 : ApiPos) (a2 : Int) : Option (ApiPos × Int) := bindO (tb_far a0) fun (y1 : Bool)=>if y1 = true then some (ApiPos.mk 0 0 0,11) else bindO (tb_far (ApiPos.mk (IntKind.i64.wrap (a0.X + (IntKind.i64.wrap (a2 * a1.X)))) (IntKind.i64.wrap (a0.Y + (IntKind.i64.wrap (a2 * a1.Y)))) (IntKind.i64.wrap (a0.Z + (IntKind.i64.wrap (a2 * a1.Z)))))) fun (y2 : Bool)=>if y2 = true then some (ApiPos.mk 0 0 0,11) else some (ApiPos.mk (IntKind.i64.wrap (a0.X + (IntKind.i64.wrap (a2 * a1.X)))) (IntKind.i64.wrap (a0.Y + (IntKind.i64.wrap (a2 * a1.Y)))) (IntKind.i64.wrap (a0.Z + (IntKind.i64.wrap (a2 * a1.Z)))),0)
theorem tb_moved_spec {a0 : ApiPos} {a1 : ApiPos} {a2 : Int} {y : ApiPos × Int} (h : tb_moved a0 a1 a2 = some y) : Spec gP 50 [.agg [.d (.int .i64 a0.X),.d (.int .i64 a0.Y),.d (.int .i64 a0.Z)],.agg [.d (.int .i64 a1.X),.d (.int .i64 a1.Y),.d (.int .i64 a1.Z)],.d (.int .i64 a2)] (.tuple [.agg [.d (.int .i64 y.1.X),.d (.int .i64 y.1.Y),.d (.int .i64 y.1.Z)],.d (.int .i64 y.2)]) := by
 refine spec_mir Tryd.func50 rfl (by kernel_rfl) (by kernel_rfl) (fun y : ApiPos × Int=>.tuple [.agg [.d (.int .i64 y.1.X),.d (.int .i64 y.1.Y),.d (.int .i64 y.1.Z)],.d (.int .i64 y.2)]) ?_ h
 unfold tb_moved
 simp only [List.replicate,List.length,nS,nA,Tryd.ntmps50,SV]
 refine .sR fun e h=>?_
 simp only [seval,EMB,zero_24]
 refine mU e (.seqK (.seqK (.bind fun y1 hy1=>.region fun e h=>?_))) h
 simp only [seval,EMB,ag_24,sz_24]
 refine SpecS.by (tb_far_spec hy1) (by simp only [seval,FMB]) ?_
 simp only [seval,EMB]
 refine mU e (.cond rfl (fun hb3=>?_) (fun hb3=>?_)) h
 refine .sR fun e h=>?_
 simp only [seval,EMB,zero_24,pl_24,sz_24]
 refine mU e (.ret fun e h=>?_) h
 cases h
 simp only [seval,FMB,Tryd.results50,ag_24,sz_24]
 refine .skip (Mir.toK (.sR fun e h=>?_))
 simp only [seval,EMB,fld_24_0,sz_2,ag_2,fld_24_1,fld_24_2,zero_24,pl_24,sz_24]
 refine mU e (.seqK (.seqK (.bind fun y2 hy4=>.region fun e h=>?_))) h
 simp only [seval,EMB,ag_24,sz_24]
 refine SpecS.by (tb_far_spec hy4) (by simp only [seval,FMB]) ?_
 simp only [seval,EMB]
 refine mU e (.cond rfl (fun hb6=>?_) (fun hb6=>?_)) h
 refine .sR fun e h=>?_
 simp only [seval,EMB,zero_24,pl_24,sz_24]
 refine mU e (.ret fun e h=>?_) h
 cases h
 simp only [seval,FMB,Tryd.results50,ag_24,sz_24]
 refine .skip (Mir.toK (.sR fun e h=>?_))
 simp only [seval,EMB,ag_24,sz_24]
 refine mU e (.ret fun e h=>?_) h
 cases h
 simp only [seval,FMB,Tryd.results50,ag_24,sz_24]
def tb_Work (a0 : TableTable) (a1 : Int) (a2 : Int) (a3 : ApiPos) : Option (ApiPos × Int) := bindO (tb_offset (TableTable.mk a0.Work a0.Lengths) a1 a2) fun (y1 : ApiPos × Int)=>if (y1.2 != 0) = true then some (ApiPos.mk 0 0 0,y1.2) else bindO (tb_moved a3 y1.1 (-1)) fun (y2 : ApiPos × Int)=>some (y2.1,y2.2)
theorem tb_Work_spec {a0 : TableTable} {a1 : Int} {a2 : Int} {a3 : ApiPos} {y : ApiPos × Int} (h : tb_Work a0 a1 a2 a3 = some y) : Spec gP 35 [.agg [.d (.int .i64 a0.Work.e0.X),.d (.int .i64 a0.Work.e0.Y),.d (.int .i64 a0.Work.e0.Z),.d (.int .i64 a0.Work.e1.X),.d (.int .i64 a0.Work.e1.Y),.d (.int .i64 a0.Work.e1.Z),.d (.int .i64 a0.Work.e2.X),.d (.int .i64 a0.Work.e2.Y),.d (.int .i64 a0.Work.e2.Z),.d (.int .i64 a0.Work.e3.X),.d (.int .i64 a0.Work.e3.Y),.d (.int .i64 a0.Work.e3.Z),.d (.int .i64 a0.Work.e4.X),.d (.int .i64 a0.Work.e4.Y),.d (.int .i64 a0.Work.e4.Z),.d (.int .i64 a0.Work.e5.X),.d (.int .i64 a0.Work.e5.Y),.d (.int .i64 a0.Work.e5.Z),.d (.list (List.map encTableLength a0.Lengths))],.d (.int .i64 a1),.d (.int .i64 a2),.agg [.d (.int .i64 a3.X),.d (.int .i64 a3.Y),.d (.int .i64 a3.Z)]] (.tuple [.agg [.d (.int .i64 y.1.X),.d (.int .i64 y.1.Y),.d (.int .i64 y.1.Z)],.d (.int .i64 y.2)]) := by
 refine spec_mir Tryd.func35 rfl (by kernel_rfl) (by kernel_rfl) (fun y : ApiPos × Int=>.tuple [.agg [.d (.int .i64 y.1.X),.d (.int .i64 y.1.Y),.d (.int .i64 y.1.Z)],.d (.int .i64 y.2)]) ?_ h
 unfold tb_Work
 simp only [List.replicate,List.length,nS,nA,Tryd.ntmps35,SV]
 refine .sR fun e h=>?_
 simp only [seval,EMB,zero_24]
 refine mU e (.seqK (.bind fun y1 hy1=>.region fun e h=>?_)) h
 simp only [seval,EMB,ag_49,sz_49]
 refine SpecS.by (tb_offset_spec hy1) (by simp only [seval,FMB]) ?_
 simp only [seval,EMB,zero_24,sz_24]
 refine mU e (.seqK (.sR fun e h=>?_)) h
 simp only [seval,EMB]
 refine mU e (.cond rfl (fun hb3=>?_) (fun hb3=>?_)) h
 refine .sR fun e h=>?_
 simp only [seval,EMB,zero_24,pl_24,sz_24]
 refine mU e (.ret fun e h=>?_) h
 cases h
 simp only [seval,FMB,Tryd.results35,ag_24,sz_24]
 refine .skip (Mir.toK (.seqK (.bind fun y2 hy4=>.region fun e h=>?_)))
 simp only [seval,EMB,ag_24,sz_24]
 refine SpecS.by (tb_moved_spec hy4) (by simp only [seval,FMB]) ?_
 simp only [seval,EMB,sz_24]
 refine mU e (.ret fun e h=>?_) h
 cases h
 simp only [seval,FMB,Tryd.results35,ag_24,sz_24]
def inp_target (a0 : ModalState) (a1 : ApiBlock) (a2 : ApiPos) : Option ApiPos := bindO (bindO (bindO (bk_Find a1 88) fun (y1 : Int × Bool)=>if (!y1.2) = true then some a2.X else if (a0.Distance == 90000) = true then some y1.1 else some (IntKind.i64.wrap (a2.X + y1.1))) fun (v1 : Int)=>bindO (bindO (bk_Find a1 89) fun (y2 : Int × Bool)=>if (!y2.2) = true then some a2.Y else if (a0.Distance == 90000) = true then some y2.1 else some (IntKind.i64.wrap (a2.Y + y2.1))) fun (v2 : Int)=>bindO (bindO (bk_Find a1 90) fun (y3 : Int × Bool)=>if (!y3.2) = true then some a2.Z else if (a0.Distance == 90000) = true then some y3.1 else some (IntKind.i64.wrap (a2.Z + y3.1))) fun (v3 : Int)=>some (ApiPos.mk v1 v2 v3)) fun (v4 : ApiPos)=>some v4
theorem inp_target_spec {a0 : ModalState} {a1 : ApiBlock} {a2 : ApiPos} {y : ApiPos} (h : inp_target a0 a1 a2 = some y) : Spec gP 51 [.agg [.d (.int .i64 a0.Motion),.d (.int .i64 a0.Distance),.d (.int .i64 a0.Work),.d (.int .i64 a0.Length),.d (.int .i64 a0.Return),.d (.int .i64 a0.Feed),.d (.int .i64 a0.Tool),.d (.int .i64 a0.Offset)],.agg [.d (.bool a1.Skip),.d (.list (List.map encApiWord a1.Words)),.d (.str a1.Comment)],.agg [.d (.int .i64 a2.X),.d (.int .i64 a2.Y),.d (.int .i64 a2.Z)]] (.agg [.d (.int .i64 y.X),.d (.int .i64 y.Y),.d (.int .i64 y.Z)]) := by
 refine spec_mir Tryd.func51 rfl (by kernel_rfl) (by kernel_rfl) (fun y : ApiPos=>.agg [.d (.int .i64 y.X),.d (.int .i64 y.Y),.d (.int .i64 y.Z)]) ?_ h
 unfold inp_target
 simp only [List.replicate,List.length,nS,nA,Tryd.ntmps51,SV]
 refine .sR fun e h=>?_
 simp only [seval,EMB,zero_24]
 refine mU e (.seqK (.sR fun e h=>?_)) h
 simp only [seval,EMB,fld_24_0,sz_2,zero_122,pl_122,fld_24_1,fld_24_2,und_123,sz_122,(oL 6),(nr rfl : ((3 : Nat) : Int) = 3)]
 refine mU e (Mir.joinO (fun v4 : ApiPos=>([U,U,U,U,U,.ptr 2 0,.ptr 3 0] ++ us 43)) (fun v4=>⟨[[.d (.int .i64 a0.Motion),.d (.int .i64 a0.Distance),.d (.int .i64 a0.Work),.d (.int .i64 a0.Length),.d (.int .i64 a0.Return),.d (.int .i64 a0.Feed),.d (.int .i64 a0.Tool),.d (.int .i64 a0.Offset)],[.d (.bool a1.Skip),.d (.list (List.map encApiWord a1.Words)),.d (.str a1.Comment)],[.d (.int .i64 v4.X),.d (.int .i64 v4.Y),.d (.int .i64 v4.Z)],[.d (.int .i64 0),.d (.int .i64 0),.d (.int .i64 0)],[.d (.int .u8 88),.ptr 2 0,.d (.int .u8 89),.ptr 2 1,.d (.int .u8 90),.ptr 2 2]],[]⟩) (fun _=>rfl) ?_ ?_) h
 refine .block (.loopR 15 (.sR fun e h=>?_))
 simp only [seval,EMB]
 refine mU e (.seqK (.condT rfl (.skip (Mir.toK (.seqK (Mir.joinO (fun v1 : Int=>([U,U,U,.ptr 0 0,.ptr 1 0,.ptr 2 0,.ptr 3 0,U,U,U,U,U,U,U,U,U,U,.sl 4 0 3 3,.d (.int .i64 3),.d (.int .i64 0)] ++ us 30)) (fun v1=>⟨[[.d (.int .i64 a0.Motion),.d (.int .i64 a0.Distance),.d (.int .i64 a0.Work),.d (.int .i64 a0.Length),.d (.int .i64 a0.Return),.d (.int .i64 a0.Feed),.d (.int .i64 a0.Tool),.d (.int .i64 a0.Offset)],[.d (.bool a1.Skip),.d (.list (List.map encApiWord a1.Words)),.d (.str a1.Comment)],[.d (.int .i64 v1),.d (.int .i64 a2.Y),.d (.int .i64 a2.Z)],[.d (.int .i64 0),.d (.int .i64 0),.d (.int .i64 0)],[.d (.int .u8 88),.ptr 2 0,.d (.int .u8 89),.ptr 2 1,.d (.int .u8 90),.ptr 2 2]],[]⟩) (fun _=>rfl) ?_ ?_)))))) h
 refine .block (.sR fun e h=>?_)
 simp only [seval,EMB,und_123,sz_122,ag_122,zero_122]
 refine mU e (.seqK (.bind fun y1 hy22=>.region fun e h=>?_)) h
 simp only [seval,EMB,ag_41,sz_41,fld_122_0,sz_5,ag_5]
 refine SpecS.by (bk_Find_spec hy22) (by simp only [seval,FMB]) ?_
 simp only [seval,EMB]
 refine mU e (.block (.sR fun e h=>?_)) h
 simp only [seval,EMB]
 refine mU e (.cond rfl (fun hb23=>?_) (fun hb23=>?_)) h
 refine .skip fun e h=>?_
 cases h
 simp only [seval,FMB,Tryd.results51,ag_24,sz_24]
 refine .sR fun e h=>?_
 simp only [seval,EMB,fld_34_1,sz_2,ag_2]
 refine mU e (.cond rfl (fun hb24=>?_) (fun hb24=>?_)) h
 refine .region fun e h=>?_
 simp only [seval,EMB,fld_122_1,sz_114,ag_114,sz_2]
 cases h
 simp only [seval,FMB,Tryd.results51,ag_24,sz_24]
 refine .region fun e h=>?_
 simp only [seval,EMB,fld_122_1,sz_114,ag_114,ag_2,sz_2]
 cases h
 simp only [seval,FMB,Tryd.results51,ag_24,sz_24]
 intro v1
 refine Mir.toK (.region fun e h=>?_)
 simp only [seval,EMB,(nr rfl : IntKind.i64.wrap 1 = 1)]
 refine Mir.useN (e := e) ?_ h
 refine .sR fun e h=>?_
 simp only [seval,EMB]
 refine mU e (.seqK (.condT rfl (.skip (Mir.toK (.seqK (Mir.joinO (fun v2 : Int=>([U,U,U,.ptr 0 0,.ptr 1 0,.ptr 2 0,.ptr 3 0,U,U,U,U,U,U,U,U,U,U,.sl 4 0 3 3,.d (.int .i64 3),.d (.int .i64 1)] ++ us 30)) (fun v2=>⟨[[.d (.int .i64 a0.Motion),.d (.int .i64 a0.Distance),.d (.int .i64 a0.Work),.d (.int .i64 a0.Length),.d (.int .i64 a0.Return),.d (.int .i64 a0.Feed),.d (.int .i64 a0.Tool),.d (.int .i64 a0.Offset)],[.d (.bool a1.Skip),.d (.list (List.map encApiWord a1.Words)),.d (.str a1.Comment)],[.d (.int .i64 v1),.d (.int .i64 v2),.d (.int .i64 a2.Z)],[.d (.int .i64 0),.d (.int .i64 0),.d (.int .i64 0)],[.d (.int .u8 88),.ptr 2 0,.d (.int .u8 89),.ptr 2 1,.d (.int .u8 90),.ptr 2 2]],[]⟩) (fun _=>rfl) ?_ ?_)))))) h
 refine .block (.sR fun e h=>?_)
 simp only [seval,EMB,und_123,sz_122,ag_122,zero_122]
 refine mU e (.seqK (.bind fun y2 hy28=>.region fun e h=>?_)) h
 simp only [seval,EMB,ag_41,sz_41,fld_122_0,sz_5,ag_5]
 refine SpecS.by (bk_Find_spec hy28) (by simp only [seval,FMB]) ?_
 simp only [seval,EMB]
 refine mU e (.block (.sR fun e h=>?_)) h
 simp only [seval,EMB]
 refine mU e (.cond rfl (fun hb29=>?_) (fun hb29=>?_)) h
 refine .skip fun e h=>?_
 cases h
 simp only [seval,FMB,Tryd.results51,ag_24,sz_24]
 refine .sR fun e h=>?_
 simp only [seval,EMB,fld_34_1,sz_2,ag_2]
 refine mU e (.cond rfl (fun hb30=>?_) (fun hb30=>?_)) h
 refine .region fun e h=>?_
 simp only [seval,EMB,fld_122_1,sz_114,ag_114,sz_2]
 cases h
 simp only [seval,FMB,Tryd.results51,ag_24,sz_24]
 refine .region fun e h=>?_
 simp only [seval,EMB,fld_122_1,sz_114,ag_114,ag_2,sz_2]
 cases h
 simp only [seval,FMB,Tryd.results51,ag_24,sz_24]
 intro v2
 refine Mir.toK (.region fun e h=>?_)
 simp only [seval,EMB,(nr rfl : IntKind.i64.wrap 2 = 2)]
 refine Mir.useN (e := e) ?_ h
 refine .sR fun e h=>?_
 simp only [seval,EMB]
 refine mU e (.seqK (.condT rfl (.skip (Mir.toK (.seqK (Mir.joinO (fun v3 : Int=>([U,U,U,.ptr 0 0,.ptr 1 0,.ptr 2 0,.ptr 3 0,U,U,U,U,U,U,U,U,U,U,.sl 4 0 3 3,.d (.int .i64 3),.d (.int .i64 2)] ++ us 30)) (fun v3=>⟨[[.d (.int .i64 a0.Motion),.d (.int .i64 a0.Distance),.d (.int .i64 a0.Work),.d (.int .i64 a0.Length),.d (.int .i64 a0.Return),.d (.int .i64 a0.Feed),.d (.int .i64 a0.Tool),.d (.int .i64 a0.Offset)],[.d (.bool a1.Skip),.d (.list (List.map encApiWord a1.Words)),.d (.str a1.Comment)],[.d (.int .i64 v1),.d (.int .i64 v2),.d (.int .i64 v3)],[.d (.int .i64 0),.d (.int .i64 0),.d (.int .i64 0)],[.d (.int .u8 88),.ptr 2 0,.d (.int .u8 89),.ptr 2 1,.d (.int .u8 90),.ptr 2 2]],[]⟩) (fun _=>rfl) ?_ ?_)))))) h
 refine .block (.sR fun e h=>?_)
 simp only [seval,EMB,und_123,sz_122,ag_122,zero_122]
 refine mU e (.seqK (.bind fun y3 hy34=>.region fun e h=>?_)) h
 simp only [seval,EMB,ag_41,sz_41,fld_122_0,sz_5,ag_5]
 refine SpecS.by (bk_Find_spec hy34) (by simp only [seval,FMB]) ?_
 simp only [seval,EMB]
 refine mU e (.block (.sR fun e h=>?_)) h
 simp only [seval,EMB]
 refine mU e (.cond rfl (fun hb35=>?_) (fun hb35=>?_)) h
 refine .skip fun e h=>?_
 cases h
 simp only [seval,FMB,Tryd.results51,ag_24,sz_24]
 refine .sR fun e h=>?_
 simp only [seval,EMB,fld_34_1,sz_2,ag_2]
 refine mU e (.cond rfl (fun hb36=>?_) (fun hb36=>?_)) h
 refine .region fun e h=>?_
 simp only [seval,EMB,fld_122_1,sz_114,ag_114,sz_2]
 cases h
 simp only [seval,FMB,Tryd.results51,ag_24,sz_24]
 refine .region fun e h=>?_
 simp only [seval,EMB,fld_122_1,sz_114,ag_114,ag_2,sz_2]
 cases h
 simp only [seval,FMB,Tryd.results51,ag_24,sz_24]
 intro v3
 refine Mir.toK (.region fun e h=>?_)
 simp only [seval,EMB,(nr rfl : IntKind.i64.wrap 3 = 3)]
 refine Mir.useN (e := e) ?_ h
 refine .sR fun e h=>?_
 simp only [seval,EMB]
 refine mU e (.seqK (.condF rfl (.exit fun e h=>?_))) h
 cases h
 simp only [seval,FMB,Tryd.results51,ag_24,sz_24]
 intro v4
 refine Mir.toK (.sR fun e h=>?_)
 simp only [seval,EMB,ag_24,sz_24]
 refine mU e (.ret fun e h=>?_) h
 cases h
 simp only [seval,FMB,Tryd.results51,ag_24,sz_24]
def cy_Read_c1 (a0 : Int) (a1 : Int) (a2 : ApiBlock) : Option Int := bindO (bk_Find a2 a0) fun (y1 : Int × Bool)=>if y1.2 = true then some y1.1 else some a1
theorem cy_Read_c1_spec {a0 : Int} {a1 : Int} {a2 : ApiBlock} {y : Int} (h : cy_Read_c1 a0 a1 a2 = some y) : Spec gP 64 [.d (.int .u8 a0),.d (.int .i64 a1),.iptr [.bool a2.Skip,.list (List.map encApiWord a2.Words),.str a2.Comment] 0] (.d (.int .i64 y)) := by
 refine spec_mir Tryd.func64 rfl (by kernel_rfl) (by kernel_rfl) (fun y : Int=>.d (.int .i64 y)) ?_ h
 unfold cy_Read_c1
 simp only [List.replicate,List.length,nS,nA,Tryd.ntmps64,SV]
 refine .sR fun e h=>?_
 simp only [seval,EMB]
 refine mU e (.seqK (.seqK (.bind fun y1 hy1=>.region fun e h=>?_))) h
 simp only [seval,EMB,ag_41,sz_41]
 refine SpecS.by (bk_Find_spec hy1) (by simp only [seval,FMB]) ?_
 simp only [seval,EMB]
 refine mU e (.sR fun e h=>?_) h
 simp only [seval,EMB]
 refine mU e (.cond rfl (fun hb3=>?_) (fun hb3=>?_)) h
 refine .sR fun e h=>?_
 simp only [seval,EMB]
 refine mU e (.ret fun e h=>?_) h
 cases h
 simp only [seval,FMB,Tryd.results64]
 refine .skip (Mir.toK (.sR fun e h=>?_))
 simp only [seval,EMB]
 refine mU e (.ret fun e h=>?_) h
 cases h
 simp only [seval,FMB,Tryd.results64]
def cy_far (a0 : Int) : Option Bool := some ((decide (a0 > 10000000)) || (decide (a0 < (-10000000))))
theorem cy_far_spec {a0 : Int} {y : Bool} (h : cy_far a0 = some y) : Spec gP 67 [.d (.int .i64 a0)] (.d (.bool y)) := by
 refine spec_mir Tryd.func67 rfl (by kernel_rfl) (by kernel_rfl) (fun y : Bool=>.d (.bool y)) ?_ h
 unfold cy_far
 simp only [List.replicate,List.length,nS,nA,Tryd.ntmps67,SV]
 refine .sR fun e h=>?_
 simp only [seval,EMB]
 refine mU e (.seqK (.joinV ([U,U,.d (.bool ((decide (a0 > 10000000)) || (decide (a0 < (-10000000)))))] ++ us 6) ⟨[],[]⟩ rfl ?_ ?_)) h
 refine SWs.region ?_
 rcases Bool.eq_false_or_eq_true (decide (a0 > 10000000)) with hb1 | hb1
 simp only [seval,EMB,SL,PB,hb1]
 simp only [seval,EMB,SL,PB,hb1]
 refine Mir.toK (.ret fun e h=>?_)
 cases h
 simp only [seval,FMB,Tryd.results67]
def cy_Valid (a0 : CycleCycle) : Option Int := if (if (a0.Code == 83000) = true then (decide (a0.Z ≥ a0.R)) || ((decide (a0.R > a0.Initial)) || ((decide (a0.Rate < 1)) || ((decide (a0.Rate > 1000000000000)) || (decide (a0.Q ≤ 0))))) else if (a0.Code != 81000) = true then (a0.Code != 82000) || ((decide (a0.Z ≥ a0.R)) || ((decide (a0.R > a0.Initial)) || ((decide (a0.Rate < 1)) || (decide (a0.Rate > 1000000000000))))) else (decide (a0.Z ≥ a0.R)) || ((decide (a0.R > a0.Initial)) || ((decide (a0.Rate < 1)) || (decide (a0.Rate > 1000000000000))))) = true then some 1 else bindO (bindO (cy_far a0.R) fun (y1 : Bool)=>if y1 = true then some true else bindO (cy_far a0.Z) fun (y2 : Bool)=>if y2 = true then some true else bindO (cy_far a0.Initial) fun (y3 : Bool)=>if y3 = true then some true else if (a0.Code == 83000) = true then bindO (cy_far a0.Q) fun (y4 : Bool)=>some y4 else some false) fun (v1 : Bool)=>if v1 = true then some 11 else bindO (if (a0.Code == 83000) = true then guardO (!(a0.Q == 0)) ( some (decide ((IntKind.i64.wrap (Int.tdiv (IntKind.i64.wrap ((IntKind.i64.wrap (a0.R - a0.Z)) - 1)) a0.Q)) > 999))) else some false) fun (v2 : Bool)=>if v2 = true then some 3 else some 0
theorem cy_Valid_spec {a0 : CycleCycle} {y : Int} (h : cy_Valid a0 = some y) : Spec gP 65 [.agg [.d (.int .i64 a0.Code),.d (.int .i64 a0.R),.d (.int .i64 a0.Z),.d (.int .i64 a0.Q),.d (.int .i64 a0.Rate),.d (.int .i64 a0.Initial),.d (.bool a0.High)]] (.d (.int .i64 y)) := by
 refine spec_mir Tryd.func65 rfl (by kernel_rfl) (by kernel_rfl) (fun y : Int=>.d (.int .i64 y)) ?_ h
 unfold cy_Valid
 simp only [List.replicate,List.length,nS,nA,Tryd.ntmps65,SV]
 refine .sR fun e h=>?_
 simp only [seval,EMB]
 refine mU e (.sR fun e h=>?_) h
 simp only [seval,EMB,fld_64_0,sz_2,ag_2]
 refine mU e (.seqK (.seqK (.joinV ([U,.ptr 0 0,U,.d (.bool (a0.Code == 83000)),U,U,U,U,U,U,U,U,U,U,U,U,U,U,U,U,U,U,U,U,U,U,U,U,U,U,U,U,U,U,U,U,U,U,U,U,U,U,U,U,U,U,U,U,U,U,.d (.bool (if (a0.Code == 83000) = true then (decide (a0.Z ≥ a0.R)) || ((decide (a0.R > a0.Initial)) || ((decide (a0.Rate < 1)) || ((decide (a0.Rate > 1000000000000)) || (decide (a0.Q ≤ 0))))) else if (a0.Code != 81000) = true then (a0.Code != 82000) || ((decide (a0.Z ≥ a0.R)) || ((decide (a0.R > a0.Initial)) || ((decide (a0.Rate < 1)) || (decide (a0.Rate > 1000000000000))))) else (decide (a0.Z ≥ a0.R)) || ((decide (a0.R > a0.Initial)) || ((decide (a0.Rate < 1)) || (decide (a0.Rate > 1000000000000))))))] ++ us 34) ⟨[[.d (.int .i64 a0.Code),.d (.int .i64 a0.R),.d (.int .i64 a0.Z),.d (.int .i64 a0.Q),.d (.int .i64 a0.Rate),.d (.int .i64 a0.Initial),.d (.bool a0.High)]],[]⟩ rfl ?_ ?_))) h
 refine SWs.region ?_
 rcases Bool.eq_false_or_eq_true (a0.Code == 83000) with hb1 | hb1
 rcases Bool.eq_false_or_eq_true (decide (a0.Z ≥ a0.R)) with hb2 | hb2
 simp only [seval,EMB,SL,PB,fld_64_2,sz_2,ag_2,fld_64_1,hb1,hb2]
 rcases Bool.eq_false_or_eq_true (decide (a0.R > a0.Initial)) with hb3 | hb3
 simp only [seval,EMB,SL,PB,fld_64_2,sz_2,ag_2,fld_64_1,fld_64_5,hb1,hb2,hb3]
 rcases Bool.eq_false_or_eq_true (decide (a0.Rate < 1)) with hb4 | hb4
 simp only [seval,EMB,SL,PB,fld_64_2,sz_2,ag_2,fld_64_1,fld_64_5,fld_64_4,hb1,hb2,hb3,hb4]
 rcases Bool.eq_false_or_eq_true (decide (a0.Rate > 1000000000000)) with hb5 | hb5
 simp only [seval,EMB,SL,PB,fld_64_2,sz_2,ag_2,fld_64_1,fld_64_5,fld_64_4,hb1,hb2,hb3,hb4,hb5]
 simp only [seval,EMB,SL,PB,fld_64_2,sz_2,ag_2,fld_64_1,fld_64_5,fld_64_4,fld_64_3,hb1,hb2,hb3,hb4,hb5]
 rcases Bool.eq_false_or_eq_true (a0.Code != 81000) with hb6 | hb6
 rcases Bool.eq_false_or_eq_true (a0.Code != 82000) with hb7 | hb7
 simp only [seval,EMB,SL,PB,fld_64_0,sz_2,ag_2,hb1,hb6,hb7]
 rcases Bool.eq_false_or_eq_true (decide (a0.Z ≥ a0.R)) with hb8 | hb8
 simp only [seval,EMB,SL,PB,fld_64_0,sz_2,ag_2,fld_64_2,fld_64_1,hb1,hb6,hb7,hb8]
 rcases Bool.eq_false_or_eq_true (decide (a0.R > a0.Initial)) with hb9 | hb9
 simp only [seval,EMB,SL,PB,fld_64_0,sz_2,ag_2,fld_64_2,fld_64_1,fld_64_5,hb1,hb6,hb7,hb8,hb9]
 rcases Bool.eq_false_or_eq_true (decide (a0.Rate < 1)) with hb10 | hb10
 simp only [seval,EMB,SL,PB,fld_64_0,sz_2,ag_2,fld_64_2,fld_64_1,fld_64_5,fld_64_4,hb1,hb6,hb7,hb8,hb9,hb10]
 rcases Bool.eq_false_or_eq_true (decide (a0.Rate > 1000000000000)) with hb11 | hb11
 simp only [seval,EMB,SL,PB,fld_64_0,sz_2,ag_2,fld_64_2,fld_64_1,fld_64_5,fld_64_4,hb1,hb6,hb7,hb8,hb9,hb10,hb11]
 simp only [seval,EMB,SL,PB,fld_64_0,sz_2,ag_2,fld_64_2,fld_64_1,fld_64_5,fld_64_4,hb1,hb6,hb7,hb8,hb9,hb10,hb11]
 rcases Bool.eq_false_or_eq_true (decide (a0.Z ≥ a0.R)) with hb12 | hb12
 simp only [seval,EMB,SL,PB,fld_64_0,sz_2,ag_2,fld_64_2,fld_64_1,hb1,hb6,hb12]
 rcases Bool.eq_false_or_eq_true (decide (a0.R > a0.Initial)) with hb13 | hb13
 simp only [seval,EMB,SL,PB,fld_64_0,sz_2,ag_2,fld_64_2,fld_64_1,fld_64_5,hb1,hb6,hb12,hb13]
 rcases Bool.eq_false_or_eq_true (decide (a0.Rate < 1)) with hb14 | hb14
 simp only [seval,EMB,SL,PB,fld_64_0,sz_2,ag_2,fld_64_2,fld_64_1,fld_64_5,fld_64_4,hb1,hb6,hb12,hb13,hb14]
 rcases Bool.eq_false_or_eq_true (decide (a0.Rate > 1000000000000)) with hb15 | hb15
 simp only [seval,EMB,SL,PB,fld_64_0,sz_2,ag_2,fld_64_2,fld_64_1,fld_64_5,fld_64_4,hb1,hb6,hb12,hb13,hb14,hb15]
 simp only [seval,EMB,SL,PB,fld_64_0,sz_2,ag_2,fld_64_2,fld_64_1,fld_64_5,fld_64_4,hb1,hb6,hb12,hb13,hb14,hb15]
 refine Mir.toK (.cond rfl (fun hb17=>?_) (fun hb17=>?_))
 refine .sR fun e h=>?_
 simp only [seval,EMB]
 refine mU e (.ret fun e h=>?_) h
 cases h
 simp only [seval,FMB,Tryd.results65]
 refine .skip (Mir.toK (.seqK (.seqK (Mir.joinO (fun v1 : Bool=>([U,.ptr 0 0,U,.d (.bool (a0.Code == 83000)),U,U,U,U,U,U,U,U,U,U,U,U,U,U,U,U,U,U,U,U,U,U,U,U,U,U,U,U,U,U,U,U,U,U,U,U,U,U,U,U,U,U,U,U,U,U,U,U,U,U,U,U,U,U,U,U,U,U,U,U,U,U,U,U,U,U,U,.d (.bool v1)] ++ us 13)) (fun v1=>⟨[[.d (.int .i64 a0.Code),.d (.int .i64 a0.R),.d (.int .i64 a0.Z),.d (.int .i64 a0.Q),.d (.int .i64 a0.Rate),.d (.int .i64 a0.Initial),.d (.bool a0.High)]],[]⟩) (fun _=>rfl) ?_ ?_))))
 refine .bind fun y1 hy18=>.ite (fun hb19=>?_) (fun hb19=>?_)
 refine .region fun e h=>?_
 simp only [seval,EMB,fld_64_1,sz_2,ag_2,hb19]
 refine SpecS.by (cy_far_spec hy18) (by simp only [seval,FMB,hb19]) ?_
 simp only [seval,EMB,hb19]
 cases h
 simp only [seval,FMB,hb19]
 refine .bind fun y2 hy20=>.ite (fun hb21=>?_) (fun hb21=>?_)
 refine .region fun e h=>?_
 simp only [seval,EMB,fld_64_1,sz_2,ag_2,hb19,hb21]
 refine SpecS.by (cy_far_spec hy18) (by simp only [seval,FMB,hb19,hb21]) ?_
 simp only [seval,EMB,fld_64_2,sz_2,ag_2,hb19,hb21]
 refine SpecS.by (cy_far_spec hy20) (by simp only [seval,FMB,hb19,hb21]) ?_
 simp only [seval,EMB,hb19,hb21]
 cases h
 simp only [seval,FMB,hb19,hb21]
 refine .bind fun y3 hy22=>.ite (fun hb23=>?_) (fun hb23=>?_)
 refine .region fun e h=>?_
 simp only [seval,EMB,fld_64_1,sz_2,ag_2,hb19,hb21,hb23]
 refine SpecS.by (cy_far_spec hy18) (by simp only [seval,FMB,hb19,hb21,hb23]) ?_
 simp only [seval,EMB,fld_64_2,sz_2,ag_2,hb19,hb21,hb23]
 refine SpecS.by (cy_far_spec hy20) (by simp only [seval,FMB,hb19,hb21,hb23]) ?_
 simp only [seval,EMB,fld_64_5,sz_2,ag_2,hb19,hb21,hb23]
 refine SpecS.by (cy_far_spec hy22) (by simp only [seval,FMB,hb19,hb21,hb23]) ?_
 simp only [seval,EMB,hb19,hb21,hb23]
 cases h
 simp only [seval,FMB,hb19,hb21,hb23]
 refine .ite (fun hb24=>?_) (fun hb24=>?_)
 refine .bind fun y4 hy25=>.region fun e h=>?_
 simp only [seval,EMB,fld_64_1,sz_2,ag_2,hb19,hb21,hb23,hb24]
 refine SpecS.by (cy_far_spec hy18) (by simp only [seval,FMB,hb19,hb21,hb23,hb24]) ?_
 simp only [seval,EMB,fld_64_2,sz_2,ag_2,hb19,hb21,hb23,hb24]
 refine SpecS.by (cy_far_spec hy20) (by simp only [seval,FMB,hb19,hb21,hb23,hb24]) ?_
 simp only [seval,EMB,fld_64_5,sz_2,ag_2,hb19,hb21,hb23,hb24]
 refine SpecS.by (cy_far_spec hy22) (by simp only [seval,FMB,hb19,hb21,hb23,hb24]) ?_
 simp only [seval,EMB,fld_64_3,sz_2,ag_2,hb19,hb21,hb23,hb24]
 refine SpecS.by (cy_far_spec hy25) (by simp only [seval,FMB,hb19,hb21,hb23,hb24]) ?_
 simp only [seval,EMB,hb19,hb21,hb23,hb24]
 cases h
 simp only [seval,FMB,hb19,hb21,hb23,hb24]
 refine .region fun e h=>?_
 simp only [seval,EMB,fld_64_1,sz_2,ag_2,hb19,hb21,hb23,hb24]
 refine SpecS.by (cy_far_spec hy18) (by simp only [seval,FMB,hb19,hb21,hb23,hb24]) ?_
 simp only [seval,EMB,fld_64_2,sz_2,ag_2,hb19,hb21,hb23,hb24]
 refine SpecS.by (cy_far_spec hy20) (by simp only [seval,FMB,hb19,hb21,hb23,hb24]) ?_
 simp only [seval,EMB,fld_64_5,sz_2,ag_2,hb19,hb21,hb23,hb24]
 refine SpecS.by (cy_far_spec hy22) (by simp only [seval,FMB,hb19,hb21,hb23,hb24]) ?_
 simp only [seval,EMB,hb19,hb21,hb23,hb24]
 cases h
 simp only [seval,FMB,hb19,hb21,hb23,hb24]
 intro v1
 refine Mir.toK (.cond rfl (fun hb27=>?_) (fun hb27=>?_))
 refine .sR fun e h=>?_
 simp only [seval,EMB]
 refine mU e (.ret fun e h=>?_) h
 cases h
 simp only [seval,FMB,Tryd.results65]
 refine .skip (Mir.toK (.seqK (.seqK (Mir.joinO (fun v2 : Bool=>[U,U,U,U,U,U,U,U,U,U,U,U,U,U,U,U,U,U,U,U,U,U,U,U,U,U,U,U,U,U,U,U,U,U,U,U,U,U,U,U,U,U,U,U,U,U,U,U,U,U,U,U,U,U,U,U,U,U,U,U,U,U,U,U,U,U,U,U,U,U,U,U,U,U,U,U,U,U,U,U,U,U,U,U,.d (.bool v2)]) (fun v2=>⟨[[.d (.int .i64 a0.Code),.d (.int .i64 a0.R),.d (.int .i64 a0.Z),.d (.int .i64 a0.Q),.d (.int .i64 a0.Rate),.d (.int .i64 a0.Initial),.d (.bool a0.High)]],[]⟩) (fun _=>rfl) ?_ ?_))))
 refine .ite (fun hb28=>?_) (fun hb28=>?_)
 refine .guard fun q29=>?_
 replace q29 := ne_of q29
 refine .region fun e h=>?_
 simp only [seval,EMB,fld_64_1,sz_2,ag_2,fld_64_2,fld_64_3,q29,hb28]
 cases h
 simp only [seval,FMB,hb28]
 refine .region fun e h=>?_
 simp only [seval,EMB,hb28]
 cases h
 simp only [seval,FMB,hb28]
 intro v2
 refine Mir.toK (.cond rfl (fun hb31=>?_) (fun hb31=>?_))
 refine .sR fun e h=>?_
 simp only [seval,EMB]
 refine mU e (.ret fun e h=>?_) h
 cases h
 simp only [seval,FMB,Tryd.results65]
 refine .skip (Mir.toK (.sR fun e h=>?_))
 simp only [seval,EMB]
 refine mU e (.ret fun e h=>?_) h
 cases h
 simp only [seval,FMB,Tryd.results65]
def cy_Read (a0 : ApiBlock) (a1 : Int) (a2 : Int) (a3 : Int) (a4 : Bool) (a5 : CycleCycle) : Option (CycleCycle × Int) := bindO (cy_Read_c1 82 a5.R a0) fun (y1 : Int)=>bindO (cy_Read_c1 90 a5.Z a0) fun (y2 : Int)=>bindO (cy_Read_c1 81 a5.Q a0) fun (y3 : Int)=>bindO (cy_Read_c1 70 a2 a0) fun (y4 : Int)=>bindO (cy_Valid (CycleCycle.mk a1 y1 y2 y3 y4 a3 a4)) fun (y5 : Int)=>if (y5 != 0) = true then some (CycleCycle.mk 0 0 0 0 0 0 false,y5) else some (CycleCycle.mk a1 y1 y2 y3 y4 a3 a4,0)
theorem cy_Read_spec {a0 : ApiBlock} {a1 : Int} {a2 : Int} {a3 : Int} {a4 : Bool} {a5 : CycleCycle} {y : CycleCycle × Int} (h : cy_Read a0 a1 a2 a3 a4 a5 = some y) : Spec gP 59 [.agg [.d (.bool a0.Skip),.d (.list (List.map encApiWord a0.Words)),.d (.str a0.Comment)],.d (.int .i64 a1),.d (.int .i64 a2),.d (.int .i64 a3),.d (.bool a4),.agg [.d (.int .i64 a5.Code),.d (.int .i64 a5.R),.d (.int .i64 a5.Z),.d (.int .i64 a5.Q),.d (.int .i64 a5.Rate),.d (.int .i64 a5.Initial),.d (.bool a5.High)]] (.tuple [.agg [.d (.int .i64 y.1.Code),.d (.int .i64 y.1.R),.d (.int .i64 y.1.Z),.d (.int .i64 y.1.Q),.d (.int .i64 y.1.Rate),.d (.int .i64 y.1.Initial),.d (.bool y.1.High)],.d (.int .i64 y.2)]) := by
 refine spec_mir Tryd.func59 rfl (by kernel_rfl) (by kernel_rfl) (fun y : CycleCycle × Int=>.tuple [.agg [.d (.int .i64 y.1.Code),.d (.int .i64 y.1.R),.d (.int .i64 y.1.Z),.d (.int .i64 y.1.Q),.d (.int .i64 y.1.Rate),.d (.int .i64 y.1.Initial),.d (.bool y.1.High)],.d (.int .i64 y.2)]) ?_ h
 unfold cy_Read
 simp only [List.replicate,List.length,nS,nA,Tryd.ntmps59,SV]
 refine .seqK (.regionW fun e h=>regW.alt 0 rfl ?_)
 simp only [seval,EMB,w_none,w_eq]
 refine alt_boxF [.bool a0.Skip,.list (List.map encApiWord a0.Words),.str a0.Comment] _ rfl rfl (regW.of ?_)
 simp only [seval,EMB,w_none,w_eq,zero_64]
 refine mU e (.sR fun e h=>?_) h
 simp only [seval,EMB]
 refine mU e (.seqK (.bind fun y1 hy1=>.bind fun y2 hy2=>.bind fun y3 hy3=>.bind fun y4 hy4=>.regionD [] (by kernel_rfl) fun e h=>?_)) h
 simp only [seval,EMB,SB,fld_64_1,sz_2,ag_2]
 refine Spec.by (cy_Read_c1_spec hy1) (by simp only [seval,FMB]) ?_
 simp only [seval,EMB,SB,fld_64_2,sz_2,ag_2]
 refine Spec.by (cy_Read_c1_spec hy2) (by simp only [seval,FMB]) ?_
 simp only [seval,EMB,SB,fld_64_3,sz_2,ag_2]
 refine Spec.by (cy_Read_c1_spec hy3) (by simp only [seval,FMB]) ?_
 simp only [seval,EMB,SB]
 refine Spec.by (cy_Read_c1_spec hy4) (by simp only [seval,FMB]) ?_
 simp only [seval,EMB,SB,zero_64,pl_64,sz_64]
 refine mU e (.seqK (.seqK (.bind fun y5 hy5=>.region fun e h=>?_))) h
 simp only [seval,EMB,ag_64,sz_64]
 refine SpecS.by (cy_Valid_spec hy5) (by simp only [seval,FMB]) ?_
 simp only [seval,EMB]
 refine mU e (.sR fun e h=>?_) h
 simp only [seval,EMB]
 refine mU e (.cond rfl (fun hb7=>?_) (fun hb7=>?_)) h
 refine .sR fun e h=>?_
 simp only [seval,EMB,zero_64,pl_64,sz_64]
 refine mU e (.ret fun e h=>?_) h
 cases h
 simp only [seval,FMB,Tryd.results59,ag_64,sz_64]
 refine .skip (Mir.toK (.sR fun e h=>?_))
 simp only [seval,EMB,ag_64,sz_64]
 refine mU e (.ret fun e h=>?_) h
 cases h
 simp only [seval,FMB,Tryd.results59,ag_64,sz_64]
def cy_Depths (a0 : CycleCycle) : Option ((List Int) × Int) := bindO (cy_Valid a0) fun (y1 : Int)=>if (y1 != 0) = true then some ([],y1) else bindO (if (a0.Code == 83000) = true then loopX (fun (v1 : (List Int) × Int)=>if (decide (v1.2 > a0.Z)) = true then guardO (okLen (v1.1.length + 1)) ( some (.go (v1.1 ++ [v1.2],IntKind.i64.wrap (v1.2 - a0.Q)))) else some (.ret v1.1)) fuel ([],IntKind.i64.wrap (a0.R - a0.Q)) else some []) fun (v2 : (List Int))=>guardO (okLen (v2.length + 1)) ( some (v2 ++ [a0.Z],0))
theorem cy_Depths_spec {a0 : CycleCycle} {y : (List Int) × Int} (h : cy_Depths a0 = some y) : Spec gP 66 [.agg [.d (.int .i64 a0.Code),.d (.int .i64 a0.R),.d (.int .i64 a0.Z),.d (.int .i64 a0.Q),.d (.int .i64 a0.Rate),.d (.int .i64 a0.Initial),.d (.bool a0.High)]] (.tuple [.d (.list (List.map (eInt .i64) y.1)),.d (.int .i64 y.2)]) := by
 refine spec_mir Tryd.func66 rfl (by kernel_rfl) (by kernel_rfl) (fun y : (List Int) × Int=>.tuple [.d (.list (List.map (eInt .i64) y.1)),.d (.int .i64 y.2)]) ?_ h
 unfold cy_Depths
 simp only [List.replicate,List.length,nS,nA,Tryd.ntmps66,SV]
 refine .sR fun e h=>?_
 simp only [seval,EMB,eInt]
 refine mU e (.seqK (.seqK (.bind fun y1 hy1=>.region fun e h=>?_))) h
 simp only [seval,EMB,ag_64,sz_64,eInt]
 refine SpecS.by (cy_Valid_spec hy1) (by simp only [seval,FMB,eInt]) ?_
 simp only [seval,EMB,eInt]
 refine mU e (.sR fun e h=>?_) h
 simp only [seval,EMB,eInt]
 refine mU e (.cond rfl (fun hb3=>?_) (fun hb3=>?_)) h
 refine .sR fun e h=>?_
 simp only [seval,EMB]
 refine mU e (.ret fun e h=>?_) h
 cases h
 simp only [seval,FMB,Tryd.results66]
 refine .skip (Mir.toK (.sR fun e h=>?_))
 simp only [seval,EMB,eInt]
 refine mU e (.seqK (.sR fun e h=>?_)) h
 simp only [seval,EMB,fld_64_0,sz_2,ag_2,eInt]
 refine mU e (.gh [.slot 5 2] rfl (Mir.joinO (fun v2 : (List Int)=>([U,.ptr 0 0,U,U,U,.own 0 (List.map (eInt .i64) v2)] ++ us 31)) (fun v2=>⟨[[.d (.int .i64 a0.Code),.d (.int .i64 a0.R),.d (.int .i64 a0.Z),.d (.int .i64 a0.Q),.d (.int .i64 a0.Rate),.d (.int .i64 a0.Initial),.d (.bool a0.High)]],[(2,v2.length)]⟩) (fun _=>rfl) ?_ ?_)) h
 refine .cond rfl (fun hb28=>?_) (fun hb28=>?_)
 refine .sR fun e h=>?_
 simp only [seval,EMB,fld_64_1,sz_2,ag_2,fld_64_3,eInt]
 refine mU e (.block (Mir.loop (fun v1 : (List Int) × Int=>([U,.ptr 0 0,U,U,U,.own 0 (List.map (eInt .i64) v1.1),.d (.int .i64 v1.2)] ++ us 30)) (fun v1=>⟨[[.d (.int .i64 a0.Code),.d (.int .i64 a0.R),.d (.int .i64 a0.Z),.d (.int .i64 a0.Q),.d (.int .i64 a0.Rate),.d (.int .i64 a0.Initial),.d (.bool a0.High)]],[(2,v1.1.length)]⟩) (fun _=>rfl) (by simp only [seval,FMB,eInt]) (by simp only [seval,FMB,eInt]) fun v1=>.seqK (.sR fun e h=>?_))) h
 simp only [seval,EMB,fld_64_2,sz_2,ag_2,eInt]
 refine mU e (.cond rfl (fun hb36=>?_) (fun hb36=>?_)) h
 refine .skip (Mir.toK (.seqK (.block (.guard fun q38=>.region fun e h=>?_))))
 simp only [seval,EMB,und_69,sz_2,zero_2,(oL 1),app_69,al_eInt,q38,eInt]
 refine mU e (.region fun e h=>?_) h
 simp only [seval,EMB,fld_64_3,sz_2,ag_2,eInt]
 cases h
 simp only [seval,FMB,eInt,Tryd.results66]
 refine .exit fun e h=>?_
 cases h
 simp only [seval,FMB,eInt,Tryd.results66]
 refine .skip fun e h=>?_
 cases h
 simp only [seval,FMB,eInt,Tryd.results66]
 intro v2
 refine Mir.toK (.seqK (.guard fun q39=>.region fun e h=>?_))
 simp only [seval,EMB,fld_64_2,sz_2,ag_2,und_69,zero_2,(oL 1),app_69,al_eInt,q39,eInt]
 refine mU e (.ret fun e h=>?_) h
 cases h
 simp only [seval,FMB,eInt,Tryd.results66]
def cy_Expand (a0 : CycleCycle) (a1 : ApiPos) (a2 : (List ApiGrid2)) : Option ((List ApiMove) × Int) := bindO (cy_Depths a0) fun (y1 : (List Int) × Int)=>if (y1.2 != 0) = true then some ([],y1.2) else bindO (bindO (cy_far a1.X) fun (y2 : Bool)=>if y2 = true then some true else bindO (cy_far a1.Y) fun (y3 : Bool)=>if y3 = true then some true else bindO (cy_far a1.Z) fun (y4 : Bool)=>some y4) fun (v1 : Bool)=>bindO (guardO (okIdx a2) ( rangeX (fun (i1 : Nat) (e1 : ApiGrid2) (v2 : Bool)=>bindO (if v2 = true then some true else bindO (cy_far e1.X) fun (y5 : Bool)=>if y5 = true then some true else bindO (cy_far e1.Y) fun (y6 : Bool)=>some y6) fun (v3 : Bool)=>some (.go v3)) (fun (v2 : Bool)=>some v2) a2 0 v1)) fun (v4 : Bool)=>if v4 = true then some ([],11) else bindX (guardO (okIdx a2) ( rangeX (fun (i2 : Nat) (e2 : ApiGrid2) (v5 : ApiPos × (List ApiMove))=>bindX (bindO (if (decide (v5.1.Z < a0.R)) = true then bindO (if (!((v5.1.X == v5.1.X) && ((v5.1.Y == v5.1.Y) && (a0.R == v5.1.Z)))) = true then guardO (okLen (v5.2.length + 1)) ( some (a0.R,v5.2 ++ [ApiMove.mk 1 (ApiPos.mk v5.1.X v5.1.Y a0.R) (ApiGrid2.mk 0 0) 0])) else some (v5.1.Z,v5.2)) fun (v6 : Int × (List ApiMove))=>some (v6.1,v6.2) else some (v5.1.Z,v5.2)) fun (v7 : Int × (List ApiMove))=>bindO (if (!((e2.X == v5.1.X) && ((e2.Y == v5.1.Y) && (v7.1 == v7.1)))) = true then guardO (okLen (v7.2.length + 1)) ( some (ApiPos.mk e2.X e2.Y v7.1,v7.2 ++ [ApiMove.mk 1 (ApiPos.mk e2.X e2.Y v7.1) (ApiGrid2.mk 0 0) 0])) else some (ApiPos.mk v5.1.X v5.1.Y v7.1,v7.2)) fun (v8 : ApiPos × (List ApiMove))=>bindO (if (!((e2.X == v8.1.X) && ((e2.Y == v8.1.Y) && (a0.R == v8.1.Z)))) = true then guardO (okLen (v8.2.length + 1)) ( some (ApiPos.mk e2.X e2.Y a0.R,v8.2 ++ [ApiMove.mk 1 (ApiPos.mk e2.X e2.Y a0.R) (ApiGrid2.mk 0 0) 0])) else some (v8.1,v8.2)) fun (v9 : ApiPos × (List ApiMove))=>bindO (guardO (okIdx y1.1) ( rangeX (fun (i3 : Nat) (e3 : Int) (v10 : ApiPos × (List ApiMove))=>bindO (if (!((e2.X == v10.1.X) && ((e2.Y == v10.1.Y) && (e3 == v10.1.Z)))) = true then guardO (okLen (v10.2.length + 1)) ( some (ApiPos.mk e2.X e2.Y e3,v10.2 ++ [ApiMove.mk 2 (ApiPos.mk e2.X e2.Y e3) (ApiGrid2.mk 0 0) a0.Rate])) else some (v10.1,v10.2)) fun (v11 : ApiPos × (List ApiMove))=>bindO (if (!((e2.X == v11.1.X) && ((e2.Y == v11.1.Y) && (a0.R == v11.1.Z)))) = true then guardO (okLen (v11.2.length + 1)) ( some (ApiPos.mk e2.X e2.Y a0.R,v11.2 ++ [ApiMove.mk 1 (ApiPos.mk e2.X e2.Y a0.R) (ApiGrid2.mk 0 0) 0])) else some (v11.1,v11.2)) fun (v12 : ApiPos × (List ApiMove))=>some (.go (v12.1,v12.2))) (fun (v10 : ApiPos × (List ApiMove))=>some (v10.1,v10.2)) y1.1 0 (v9.1,v9.2))) fun (v13 : ApiPos × (List ApiMove))=>bindO (if a0.High = true then bindO (if (!((e2.X == v13.1.X) && ((e2.Y == v13.1.Y) && (a0.Initial == v13.1.Z)))) = true then guardO (okLen (v13.2.length + 1)) ( some (ApiPos.mk e2.X e2.Y a0.Initial,v13.2 ++ [ApiMove.mk 1 (ApiPos.mk e2.X e2.Y a0.Initial) (ApiGrid2.mk 0 0) 0])) else some (v13.1,v13.2)) fun (v14 : ApiPos × (List ApiMove))=>some (v14.1,v14.2) else some (v13.1,v13.2)) fun (v15 : ApiPos × (List ApiMove))=>if (decide ((v15.2.length : Int) > 20000)) = true then some (.ret (.ret (.ret ([],3)))) else some (.go (v15.1,v15.2))) fun (v16 : ApiPos × (List ApiMove))=>some (.go (v16.1,v16.2))) (fun (v5 : ApiPos × (List ApiMove))=>some (.go (v5.1,v5.2))) a2 0 (a1,[]))) fun (v17 : ApiPos × (List ApiMove))=>some (v17.2,0)
theorem cy_Expand_spec {a0 : CycleCycle} {a1 : ApiPos} {a2 : (List ApiGrid2)} {y : (List ApiMove) × Int} (h : cy_Expand a0 a1 a2 = some y) : Spec gP 60 [.agg [.d (.int .i64 a0.Code),.d (.int .i64 a0.R),.d (.int .i64 a0.Z),.d (.int .i64 a0.Q),.d (.int .i64 a0.Rate),.d (.int .i64 a0.Initial),.d (.bool a0.High)],.agg [.d (.int .i64 a1.X),.d (.int .i64 a1.Y),.d (.int .i64 a1.Z)],.d (.list (List.map encApiGrid2 a2))] (.tuple [.d (.list (List.map encApiMove y.1)),.d (.int .i64 y.2)]) := by
 refine spec_mir Tryd.func60 rfl (by kernel_rfl) (by kernel_rfl) (fun y : (List ApiMove) × Int=>.tuple [.d (.list (List.map encApiMove y.1)),.d (.int .i64 y.2)]) ?_ h
 unfold cy_Expand
 simp only [List.replicate,List.length,nS,nA,Tryd.ntmps60,SV]
 refine .sR fun e h=>?_
 simp only [seval,EMB,eInt]
 refine mU e (.seqK (.bind fun y1 hy1=>.region fun e h=>?_)) h
 simp only [seval,EMB,ag_64,sz_64,eInt]
 refine SpecS.by (cy_Depths_spec hy1) (by simp only [seval,FMB,eInt]) ?_
 simp only [seval,EMB,eInt]
 refine mU e (.seqK (.sR fun e h=>?_)) h
 simp only [seval,EMB,eInt]
 refine mU e (.cond rfl (fun hb3=>?_) (fun hb3=>?_)) h
 refine .sR fun e h=>?_
 simp only [seval,EMB]
 refine mU e (.ret fun e h=>?_) h
 cases h
 simp only [seval,FMB,Tryd.results60]
 refine .skip (Mir.toK (.seqK (Mir.joinO (fun v1 : Bool=>([U,U,.d (.list (List.map encApiGrid2 a2)),.ptr 0 0,.ptr 1 0,U,U,U,.d (.list (List.map (eInt .i64) y1.1)),U,.d (.bool v1)] ++ us 125)) (fun v1=>⟨[[.d (.int .i64 a0.Code),.d (.int .i64 a0.R),.d (.int .i64 a0.Z),.d (.int .i64 a0.Q),.d (.int .i64 a0.Rate),.d (.int .i64 a0.Initial),.d (.bool a0.High)],[.d (.int .i64 a1.X),.d (.int .i64 a1.Y),.d (.int .i64 a1.Z)]],[]⟩) (fun _=>rfl) ?_ ?_)))
 refine .bind fun y2 hy4=>.ite (fun hb5=>?_) (fun hb5=>?_)
 refine .region fun e h=>?_
 simp only [seval,EMB,fld_24_0,sz_2,ag_2,hb5]
 refine SpecS.by (cy_far_spec hy4) (by simp only [seval,FMB,hb5]) ?_
 simp only [seval,EMB,hb5]
 cases h
 simp only [seval,FMB,hb5]
 refine .bind fun y3 hy6=>.ite (fun hb7=>?_) (fun hb7=>?_)
 refine .region fun e h=>?_
 simp only [seval,EMB,fld_24_0,sz_2,ag_2,hb5,hb7]
 refine SpecS.by (cy_far_spec hy4) (by simp only [seval,FMB,hb5,hb7]) ?_
 simp only [seval,EMB,fld_24_1,sz_2,ag_2,hb5,hb7]
 refine SpecS.by (cy_far_spec hy6) (by simp only [seval,FMB,hb5,hb7]) ?_
 simp only [seval,EMB,hb5,hb7]
 cases h
 simp only [seval,FMB,hb5,hb7]
 refine .bind fun y4 hy8=>.region fun e h=>?_
 simp only [seval,EMB,fld_24_0,sz_2,ag_2,hb5,hb7]
 refine SpecS.by (cy_far_spec hy4) (by simp only [seval,FMB,hb5,hb7]) ?_
 simp only [seval,EMB,fld_24_1,sz_2,ag_2,hb5,hb7]
 refine SpecS.by (cy_far_spec hy6) (by simp only [seval,FMB,hb5,hb7]) ?_
 simp only [seval,EMB,fld_24_2,sz_2,ag_2,hb5,hb7]
 refine SpecS.by (cy_far_spec hy8) (by simp only [seval,FMB,hb5,hb7]) ?_
 simp only [seval,EMB,hb5,hb7]
 cases h
 simp only [seval,FMB,hb5,hb7]
 intro v1
 refine Mir.toK (.seqK (.sR fun e h=>?_))
 simp only [seval,EMB,und_131,eInt]
 refine mU e (Mir.joinO (fun v4 : Bool=>([U,U,.d (.list (List.map encApiGrid2 a2)),.ptr 0 0,.ptr 1 0,U,U,U,.d (.list (List.map (eInt .i64) y1.1)),U,.d (.bool v4)] ++ us 125)) (fun v4=>⟨[[.d (.int .i64 a0.Code),.d (.int .i64 a0.R),.d (.int .i64 a0.Z),.d (.int .i64 a0.Q),.d (.int .i64 a0.Rate),.d (.int .i64 a0.Initial),.d (.bool a0.High)],[.d (.int .i64 a1.X),.d (.int .i64 a1.Y),.d (.int .i64 a1.Z)]],[]⟩) (fun _=>rfl) ?_ ?_) h
 refine .block (.guard fun qg94=>Mir.range (fun (i1 : Nat) (v2 : Bool)=>([U,U,.d (.list (List.map encApiGrid2 a2)),.ptr 0 0,.ptr 1 0,U,U,U,.d (.list (List.map (eInt .i64) y1.1)),U,.d (.bool v2),U,U,U,U,U,U,U,U,U,U,U,U,U,U,U,U,U,U,U,U,U,U,U,U,U,U,U,U,U,U,.d (.list (List.map encApiGrid2 a2)),.d (.int .i64 (a2.length : Int)),.d (.int .i64 (i1 : Int))] ++ us 92)) (fun i1 v2=>⟨[[.d (.int .i64 a0.Code),.d (.int .i64 a0.R),.d (.int .i64 a0.Z),.d (.int .i64 a0.Q),.d (.int .i64 a0.Rate),.d (.int .i64 a0.Initial),.d (.bool a0.High)],[.d (.int .i64 a1.X),.d (.int .i64 a1.Y),.d (.int .i64 a1.Z)]],[]⟩) qg94 (fun _ _=>rfl) (by simp only [seval,FMB,zNI]) (by simp only [seval,FMB,zNI]) ?_ ?_)
 intro i1 e1 v2 qr92
 refine .sR fun e h=>?_
 simp only [seval,EMB,qr92]
 refine mU e (.seqK (.condT rfl (.skip (Mir.toK (.seqK (.block (.sR fun e h=>?_))))))) h
 simp only [seval,EMB,und_131,sz_130,qr92,Int.toNat_natCast,ag_130,zero_130]
 refine mU e (Mir.joinO (fun v3 : Bool=>([U,U,.d (.list (List.map encApiGrid2 a2)),.ptr 0 0,.ptr 1 0,U,U,U,.d (.list (List.map (eInt .i64) y1.1)),U,.d (.bool v3),U,U,U,U,U,U,U,U,U,U,U,U,U,U,U,U,U,U,U,U,U,U,U,U,U,U,U,U,U,U,.d (.list (List.map encApiGrid2 a2)),.d (.int .i64 (a2.length : Int)),.d (.int .i64 (i1 : Int))] ++ us 92)) (fun v3=>⟨[[.d (.int .i64 a0.Code),.d (.int .i64 a0.R),.d (.int .i64 a0.Z),.d (.int .i64 a0.Q),.d (.int .i64 a0.Rate),.d (.int .i64 a0.Initial),.d (.bool a0.High)],[.d (.int .i64 a1.X),.d (.int .i64 a1.Y),.d (.int .i64 a1.Z)],[.d (.int .i64 e1.X),.d (.int .i64 e1.Y)]],[]⟩) (fun _=>rfl) ?_ ?_) h
 refine .ite (fun hb99=>?_) (fun hb99=>?_)
 refine .region fun e h=>?_
 simp only [seval,EMB,hb99]
 cases h
 simp only [seval,FMB,hb99]
 refine .bind fun y5 h1=>.ite (fun h2=>?_) (fun h2=>?_)
 refine .region fun e h=>?_
 simp only [seval,EMB,fld_130_0,sz_2,ag_2,hb99,h2]
 refine SpecS.by (cy_far_spec h1) (by simp only [seval,FMB,hb99,h2]) ?_
 simp only [seval,EMB,hb99,h2]
 cases h
 simp only [seval,FMB,hb99,h2]
 refine .bind fun y6 h3=>.region fun e h=>?_
 simp only [seval,EMB,fld_130_0,sz_2,ag_2,hb99,h2]
 refine SpecS.by (cy_far_spec h1) (by simp only [seval,FMB,hb99,h2]) ?_
 simp only [seval,EMB,fld_130_1,sz_2,ag_2,hb99,h2]
 refine SpecS.by (cy_far_spec h3) (by simp only [seval,FMB,hb99,h2]) ?_
 simp only [seval,EMB,hb99,h2]
 cases h
 simp only [seval,FMB,hb99,h2]
 intro v3
 refine Mir.toB (Mir.toK (.region fun e h=>?_))
 simp only [seval,EMB]
 cases h
 simp only [seval,FMB,Tryd.results60,qr92]
 intro v2 qd93
 refine .sR fun e h=>?_
 simp only [seval,EMB,qd93]
 refine mU e (.seqK (.condF rfl (.exit fun e h=>?_))) h
 cases h
 simp only [seval,FMB,Tryd.results60]
 intro v4
 refine Mir.toK (.seqK (.sR fun e h=>?_))
 simp only [seval,EMB,eInt]
 refine mU e (.cond rfl (fun h4=>?_) (fun h4=>?_)) h
 refine .sR fun e h=>?_
 simp only [seval,EMB]
 refine mU e (.ret fun e h=>?_) h
 cases h
 simp only [seval,FMB,Tryd.results60]
 refine .skip (Mir.toK (.sR fun e h=>?_))
 simp only [seval,EMB,zero_126,eInt]
 refine mU e (.sR fun e h=>?_) h
 simp only [seval,EMB,eInt]
 refine mU e (.seqK (.sR fun e h=>?_)) h
 simp only [seval,EMB,und_131,eInt]
 refine mU e (.gh [.cell 2 0 133] rfl (Mir.join (fun v17 : ApiPos × (List ApiMove)=>([U,U,U,U,U,U,U,U,U,U,U,U,U,.ptr 2 0] ++ us 122)) (fun v17=>⟨[[.d (.int .i64 a0.Code),.d (.int .i64 a0.R),.d (.int .i64 a0.Z),.d (.int .i64 a0.Q),.d (.int .i64 a0.Rate),.d (.int .i64 a0.Initial),.d (.bool a0.High)],[.d (.int .i64 v17.1.X),.d (.int .i64 v17.1.Y),.d (.int .i64 v17.1.Z)],[.own 0 (List.map encApiMove v17.2)]],[(133,v17.2.length)]⟩) (fun _=>rfl) ?_ ?_)) h
 refine .block (.guard fun q1=>Mir.range (fun (i2 : Nat) (v5 : ApiPos × (List ApiMove))=>([U,U,U,.ptr 0 0,.ptr 1 0,U,U,U,.d (.list (List.map (eInt .i64) y1.1)),U,U,U,U,.ptr 2 0,.fn 68 [.ptr 1 0,.ptr 2 0],U,U,U,U,U,U,U,U,U,U,U,U,U,U,U,U,U,U,U,U,U,U,U,U,U,U,U,U,U,U,U,U,U,U,U,U,U,U,U,U,U,U,U,U,U,U,.d (.list (List.map encApiGrid2 a2)),.d (.int .i64 (a2.length : Int)),.d (.int .i64 (i2 : Int))] ++ us 72)) (fun i2 v5=>⟨[[.d (.int .i64 a0.Code),.d (.int .i64 a0.R),.d (.int .i64 a0.Z),.d (.int .i64 a0.Q),.d (.int .i64 a0.Rate),.d (.int .i64 a0.Initial),.d (.bool a0.High)],[.d (.int .i64 v5.1.X),.d (.int .i64 v5.1.Y),.d (.int .i64 v5.1.Z)],[.own 0 (List.map encApiMove v5.2)]],[(133,v5.2.length)]⟩) q1 (fun _ _=>rfl) (by simp only [seval,FMB,eInt,zNI]) (by simp only [seval,FMB,eInt,zNI]) ?_ ?_)
 intro i2 e2 v5 q2
 refine .sR fun e h=>?_
 simp only [seval,EMB,q2,eInt]
 refine mU e (.seqK (.condT rfl (.skip (Mir.toK (.seqK (Mir.join (fun v16 : ApiPos × (List ApiMove)=>([U,U,U,.ptr 0 0,.ptr 1 0,U,U,U,.d (.list (List.map (eInt .i64) y1.1)),U,U,U,U,.ptr 2 0,.fn 68 [.ptr 1 0,.ptr 2 0],U,U,U,U,U,U,U,U,U,U,U,U,U,U,U,U,U,U,U,U,U,U,U,U,U,U,U,U,U,U,U,U,U,U,U,U,U,U,U,U,U,U,U,U,U,U,.d (.list (List.map encApiGrid2 a2)),.d (.int .i64 (a2.length : Int)),.d (.int .i64 (i2 : Int))] ++ us 72)) (fun v16=>⟨[[.d (.int .i64 a0.Code),.d (.int .i64 a0.R),.d (.int .i64 a0.Z),.d (.int .i64 a0.Q),.d (.int .i64 a0.Rate),.d (.int .i64 a0.Initial),.d (.bool a0.High)],[.d (.int .i64 v16.1.X),.d (.int .i64 v16.1.Y),.d (.int .i64 v16.1.Z)],[.own 0 (List.map encApiMove v16.2)]],[(133,v16.2.length)]⟩) (fun _=>rfl) ?_ ?_)))))) h
 refine .block (.sR fun e h=>?_)
 simp only [seval,EMB,und_131,sz_130,q2,Int.toNat_natCast,ag_130,zero_130,eInt]
 refine mU e (.seqK (.sR fun e h=>?_)) h
 simp only [seval,EMB,fld_24_2,sz_2,ag_2,fld_64_1,eInt]
 refine mU e (Mir.joinO (fun v7 : Int × (List ApiMove)=>([U,U,U,.ptr 0 0,.ptr 1 0,U,U,U,.d (.list (List.map (eInt .i64) y1.1)),U,U,U,U,.ptr 2 0,.fn 68 [.ptr 1 0,.ptr 2 0],U,.ptr 3 0,U,U,U,U,U,U,U,U,U,U,U,U,U,U,U,U,U,U,U,U,U,U,U,U,U,U,U,U,U,U,U,U,U,U,U,U,U,U,U,U,U,U,U,U,.d (.list (List.map encApiGrid2 a2)),.d (.int .i64 (a2.length : Int)),.d (.int .i64 (i2 : Int))] ++ us 72)) (fun v7=>⟨[[.d (.int .i64 a0.Code),.d (.int .i64 a0.R),.d (.int .i64 a0.Z),.d (.int .i64 a0.Q),.d (.int .i64 a0.Rate),.d (.int .i64 a0.Initial),.d (.bool a0.High)],[.d (.int .i64 v5.1.X),.d (.int .i64 v5.1.Y),.d (.int .i64 v7.1)],[.own 0 (List.map encApiMove v7.2)],[.d (.int .i64 e2.X),.d (.int .i64 e2.Y)]],[(133,v7.2.length)]⟩) (fun _=>rfl) ?_ ?_) h
 refine .cond rfl (fun h5=>?_) (fun h5=>?_)
 refine .bind fun v6 h6=>.region fun e h=>?_
 simp only [seval,EMB,fld_24_0,sz_2,ag_2,fld_24_1,fld_64_1,zero_24,pl_24,eInt]
 refine SpecS.inl Tryd.func68 rfl (by kernel_rfl) (by kernel_rfl) (fun v6 : Int × (List ApiMove)=>.tuple []) (fun v6=>⟨[[.d (.int .i64 a0.Code),.d (.int .i64 a0.R),.d (.int .i64 a0.Z),.d (.int .i64 a0.Q),.d (.int .i64 a0.Rate),.d (.int .i64 a0.Initial),.d (.bool a0.High)],[.d (.int .i64 v5.1.X),.d (.int .i64 v5.1.Y),.d (.int .i64 v6.1)],[.own 0 (List.map encApiMove v6.2)],[.d (.int .i64 e2.X),.d (.int .i64 e2.Y)]],[(133,v6.2.length)]⟩) h6 rfl ?_ ?_
 simp only [List.replicate,List.length,nS,nA,Tryd.ntmps68,SV]
 refine .sR fun e h=>?_
 simp only [seval,EMB,eInt]
 refine mU e (.sR fun e h=>?_) h
 simp only [seval,EMB,ag_24,sz_24,gE_24,eInt]
 refine mU e (.cond rfl (fun h7=>?_) (fun h7=>?_)) h
 refine .seqK (.guard fun q3=>.region fun e h=>?_)
 simp only [seval,EMB,ag_126,sz_126,ag_24,sz_24,zero_133,pl_133,und_126,sz_133,(oL 7),app_126,al_ApiMove,q3,eInt]
 refine mU e (.region fun e h=>?_) h
 simp only [seval,EMB,ag_24,sz_24,eInt]
 cases h
 simp only [seval,FMB,eInt,Tryd.results68]
 refine .skip fun e h=>?_
 cases h
 simp only [seval,FMB,eInt,Tryd.results68]
 simp only [seval,EMB,eInt]
 cases h
 simp only [seval,FMB,eInt,Tryd.results60]
 refine .skip fun e h=>?_
 cases h
 simp only [seval,FMB,eInt,Tryd.results60]
 intro v7
 refine Mir.toK (.seqK (.bind fun v8 h8=>.region fun e h=>?_))
 simp only [seval,EMB,fld_130_0,sz_2,ag_2,fld_130_1,fld_24_2,zero_24,pl_24,eInt]
 refine SpecS.inl Tryd.func68 rfl (by kernel_rfl) (by kernel_rfl) (fun v8 : ApiPos × (List ApiMove)=>.tuple []) (fun v8=>⟨[[.d (.int .i64 a0.Code),.d (.int .i64 a0.R),.d (.int .i64 a0.Z),.d (.int .i64 a0.Q),.d (.int .i64 a0.Rate),.d (.int .i64 a0.Initial),.d (.bool a0.High)],[.d (.int .i64 v8.1.X),.d (.int .i64 v8.1.Y),.d (.int .i64 v8.1.Z)],[.own 0 (List.map encApiMove v8.2)],[.d (.int .i64 e2.X),.d (.int .i64 e2.Y)]],[(133,v8.2.length)]⟩) h8 rfl ?_ ?_
 simp only [List.replicate,List.length,nS,nA,Tryd.ntmps68,SV]
 refine .sR fun e h=>?_
 simp only [seval,EMB,eInt]
 refine mU e (.sR fun e h=>?_) h
 simp only [seval,EMB,ag_24,sz_24,gE_24,eInt]
 refine mU e (.cond rfl (fun h9=>?_) (fun h9=>?_)) h
 refine .seqK (.guard fun q4=>.region fun e h=>?_)
 simp only [seval,EMB,ag_126,sz_126,ag_24,sz_24,zero_133,pl_133,und_126,sz_133,(oL 7),app_126,al_ApiMove,q4,eInt]
 refine mU e (.region fun e h=>?_) h
 simp only [seval,EMB,ag_24,sz_24,eInt]
 cases h
 simp only [seval,FMB,eInt,Tryd.results68]
 refine .skip fun e h=>?_
 cases h
 simp only [seval,FMB,eInt,Tryd.results68]
 simp only [seval,EMB,eInt]
 refine mU e (.sR fun e h=>?_) h
 simp only [seval,EMB,fld_130_0,sz_2,ag_2,fld_130_1,fld_64_1,zero_24,pl_24,sz_24,eInt]
 refine mU e (.seqK (.bind fun v9 h10=>.region fun e h=>?_)) h
 simp only [seval,EMB,ag_24,sz_24,eInt]
 refine SpecS.inl Tryd.func68 rfl (by kernel_rfl) (by kernel_rfl) (fun v9 : ApiPos × (List ApiMove)=>.tuple []) (fun v9=>⟨[[.d (.int .i64 a0.Code),.d (.int .i64 a0.R),.d (.int .i64 a0.Z),.d (.int .i64 a0.Q),.d (.int .i64 a0.Rate),.d (.int .i64 a0.Initial),.d (.bool a0.High)],[.d (.int .i64 v9.1.X),.d (.int .i64 v9.1.Y),.d (.int .i64 v9.1.Z)],[.own 0 (List.map encApiMove v9.2)],[.d (.int .i64 e2.X),.d (.int .i64 e2.Y)],[.d (.int .i64 e2.X),.d (.int .i64 e2.Y),.d (.int .i64 a0.R)]],[(133,v9.2.length)]⟩) h10 rfl ?_ ?_
 simp only [List.replicate,List.length,nS,nA,Tryd.ntmps68,SV]
 refine .sR fun e h=>?_
 simp only [seval,EMB,eInt]
 refine mU e (.sR fun e h=>?_) h
 simp only [seval,EMB,ag_24,sz_24,gE_24,eInt]
 refine mU e (.cond rfl (fun h11=>?_) (fun h11=>?_)) h
 refine .seqK (.guard fun q5=>.region fun e h=>?_)
 simp only [seval,EMB,ag_126,sz_126,ag_24,sz_24,zero_133,pl_133,und_126,sz_133,(oL 7),app_126,al_ApiMove,q5,eInt]
 refine mU e (.region fun e h=>?_) h
 simp only [seval,EMB,ag_24,sz_24,eInt]
 cases h
 simp only [seval,FMB,eInt,Tryd.results68]
 refine .skip fun e h=>?_
 cases h
 simp only [seval,FMB,eInt,Tryd.results68]
 simp only [seval,EMB,eInt]
 refine mU e (.seqK (.sR fun e h=>?_)) h
 simp only [seval,EMB,und_69,eInt]
 refine mU e (Mir.joinO (fun v13 : ApiPos × (List ApiMove)=>([U,U,U,.ptr 0 0,.ptr 1 0,U,U,U,.d (.list (List.map (eInt .i64) y1.1)),U,U,U,U,.ptr 2 0,.fn 68 [.ptr 1 0,.ptr 2 0],U,.ptr 3 0,U,U,U,U,U,U,U,U,U,U,U,U,U,U,U,U,U,U,U,U,U,U,U,U,U,U,U,U,U,U,U,U,U,U,U,U,U,U,U,U,U,U,U,U,.d (.list (List.map encApiGrid2 a2)),.d (.int .i64 (a2.length : Int)),.d (.int .i64 (i2 : Int))] ++ us 72)) (fun v13=>⟨[[.d (.int .i64 a0.Code),.d (.int .i64 a0.R),.d (.int .i64 a0.Z),.d (.int .i64 a0.Q),.d (.int .i64 a0.Rate),.d (.int .i64 a0.Initial),.d (.bool a0.High)],[.d (.int .i64 v13.1.X),.d (.int .i64 v13.1.Y),.d (.int .i64 v13.1.Z)],[.own 0 (List.map encApiMove v13.2)],[.d (.int .i64 e2.X),.d (.int .i64 e2.Y)],[.d (.int .i64 e2.X),.d (.int .i64 e2.Y),.d (.int .i64 a0.R)]],[(133,v13.2.length)]⟩) (fun _=>rfl) ?_ ?_) h
 refine .block (.guard fun q6=>Mir.range (fun (i3 : Nat) (v10 : ApiPos × (List ApiMove))=>([U,U,U,.ptr 0 0,.ptr 1 0,U,U,U,.d (.list (List.map (eInt .i64) y1.1)),U,U,U,U,.ptr 2 0,.fn 68 [.ptr 1 0,.ptr 2 0],U,.ptr 3 0,.ptr 4 0,U,U,U,U,U,U,U,U,U,U,U,U,U,U,U,U,U,U,U,U,U,U,U,U,U,U,U,U,U,U,U,U,U,U,U,U,U,U,U,U,U,U,U,.d (.list (List.map encApiGrid2 a2)),.d (.int .i64 (a2.length : Int)),.d (.int .i64 (i2 : Int)),U,U,U,U,U,U,U,U,U,U,U,U,U,U,U,U,U,U,U,U,U,U,U,U,U,U,U,U,U,U,U,U,U,U,U,U,.d (.list (List.map (eInt .i64) y1.1)),.d (.int .i64 (y1.1.length : Int)),.d (.int .i64 (i3 : Int))] ++ us 33)) (fun i3 v10=>⟨[[.d (.int .i64 a0.Code),.d (.int .i64 a0.R),.d (.int .i64 a0.Z),.d (.int .i64 a0.Q),.d (.int .i64 a0.Rate),.d (.int .i64 a0.Initial),.d (.bool a0.High)],[.d (.int .i64 v10.1.X),.d (.int .i64 v10.1.Y),.d (.int .i64 v10.1.Z)],[.own 0 (List.map encApiMove v10.2)],[.d (.int .i64 e2.X),.d (.int .i64 e2.Y)],[.d (.int .i64 e2.X),.d (.int .i64 e2.Y),.d (.int .i64 a0.R)]],[(133,v10.2.length)]⟩) q6 (fun _ _=>rfl) (by simp only [seval,FMB,eInt,zNI]) (by simp only [seval,FMB,eInt,zNI]) ?_ ?_)
 intro i3 e3 v10 q7
 refine .sR fun e h=>?_
 simp only [seval,EMB,q7,eInt]
 refine mU e (.seqK (.condT rfl (.skip (Mir.toK (.seqK (.block (.sR fun e h=>?_))))))) h
 simp only [seval,EMB,und_69,sz_2,q7,Int.toNat_natCast,ag_2,eInt]
 refine mU e (.seqK (.bind fun v11 h12=>.region fun e h=>?_)) h
 simp only [seval,EMB,fld_130_0,sz_2,ag_2,fld_130_1,zero_24,pl_24,fld_64_4,eInt]
 refine SpecS.inl Tryd.func68 rfl (by kernel_rfl) (by kernel_rfl) (fun v11 : ApiPos × (List ApiMove)=>.tuple []) (fun v11=>⟨[[.d (.int .i64 a0.Code),.d (.int .i64 a0.R),.d (.int .i64 a0.Z),.d (.int .i64 a0.Q),.d (.int .i64 a0.Rate),.d (.int .i64 a0.Initial),.d (.bool a0.High)],[.d (.int .i64 v11.1.X),.d (.int .i64 v11.1.Y),.d (.int .i64 v11.1.Z)],[.own 0 (List.map encApiMove v11.2)],[.d (.int .i64 e2.X),.d (.int .i64 e2.Y)],[.d (.int .i64 e2.X),.d (.int .i64 e2.Y),.d (.int .i64 a0.R)]],[(133,v11.2.length)]⟩) h12 rfl ?_ ?_
 simp only [List.replicate,List.length,nS,nA,Tryd.ntmps68,SV]
 refine .sR fun e h=>?_
 simp only [seval,EMB,eInt]
 refine mU e (.sR fun e h=>?_) h
 simp only [seval,EMB,ag_24,sz_24,gE_24,eInt]
 refine mU e (.cond rfl (fun h13=>?_) (fun h13=>?_)) h
 refine .seqK (.guard fun q8=>.region fun e h=>?_)
 simp only [seval,EMB,ag_126,sz_126,ag_24,sz_24,zero_133,pl_133,und_126,sz_133,(oL 7),app_126,al_ApiMove,q8,eInt]
 refine mU e (.region fun e h=>?_) h
 simp only [seval,EMB,ag_24,sz_24,eInt]
 cases h
 simp only [seval,FMB,eInt,Tryd.results68]
 refine .skip fun e h=>?_
 cases h
 simp only [seval,FMB,eInt,Tryd.results68]
 simp only [seval,EMB,eInt]
 refine mU e (.bind fun v12 h14=>.region fun e h=>?_) h
 simp only [seval,EMB,ag_24,sz_24,eInt]
 refine SpecS.inl Tryd.func68 rfl (by kernel_rfl) (by kernel_rfl) (fun v12 : ApiPos × (List ApiMove)=>.tuple []) (fun v12=>⟨[[.d (.int .i64 a0.Code),.d (.int .i64 a0.R),.d (.int .i64 a0.Z),.d (.int .i64 a0.Q),.d (.int .i64 a0.Rate),.d (.int .i64 a0.Initial),.d (.bool a0.High)],[.d (.int .i64 v12.1.X),.d (.int .i64 v12.1.Y),.d (.int .i64 v12.1.Z)],[.own 0 (List.map encApiMove v12.2)],[.d (.int .i64 e2.X),.d (.int .i64 e2.Y)],[.d (.int .i64 e2.X),.d (.int .i64 e2.Y),.d (.int .i64 a0.R)]],[(133,v12.2.length)]⟩) h14 rfl ?_ ?_
 simp only [List.replicate,List.length,nS,nA,Tryd.ntmps68,SV]
 refine .sR fun e h=>?_
 simp only [seval,EMB,eInt]
 refine mU e (.sR fun e h=>?_) h
 simp only [seval,EMB,ag_24,sz_24,gE_24,eInt]
 refine mU e (.cond rfl (fun h15=>?_) (fun h15=>?_)) h
 refine .seqK (.guard fun q9=>.region fun e h=>?_)
 simp only [seval,EMB,ag_126,sz_126,ag_24,sz_24,zero_133,pl_133,und_126,sz_133,(oL 7),app_126,al_ApiMove,q9,eInt]
 refine mU e (.region fun e h=>?_) h
 simp only [seval,EMB,ag_24,sz_24,eInt]
 cases h
 simp only [seval,FMB,eInt,Tryd.results68]
 refine .skip fun e h=>?_
 cases h
 simp only [seval,FMB,eInt,Tryd.results68]
 simp only [seval,EMB,eInt]
 refine mU e (.region fun e h=>?_) h
 simp only [seval,EMB,eInt]
 cases h
 simp only [seval,FMB,eInt,Tryd.results60,q7]
 intro v10 q10
 refine .sR fun e h=>?_
 simp only [seval,EMB,q10,eInt]
 refine mU e (.seqK (.condF rfl (.exit fun e h=>?_))) h
 cases h
 simp only [seval,FMB,eInt,Tryd.results60]
 intro v13
 refine Mir.toK (.seqK (.sR fun e h=>?_))
 simp only [seval,EMB,fld_64_6,sz_4,ag_4,eInt]
 refine mU e (Mir.joinO (fun v15 : ApiPos × (List ApiMove)=>([U,U,U,.ptr 0 0,.ptr 1 0,U,U,U,.d (.list (List.map (eInt .i64) y1.1)),U,U,U,U,.ptr 2 0,.fn 68 [.ptr 1 0,.ptr 2 0],U,U,U,U,U,U,U,U,U,U,U,U,U,U,U,U,U,U,U,U,U,U,U,U,U,U,U,U,U,U,U,U,U,U,U,U,U,U,U,U,U,U,U,U,U,U,.d (.list (List.map encApiGrid2 a2)),.d (.int .i64 (a2.length : Int)),.d (.int .i64 (i2 : Int))] ++ us 72)) (fun v15=>⟨[[.d (.int .i64 a0.Code),.d (.int .i64 a0.R),.d (.int .i64 a0.Z),.d (.int .i64 a0.Q),.d (.int .i64 a0.Rate),.d (.int .i64 a0.Initial),.d (.bool a0.High)],[.d (.int .i64 v15.1.X),.d (.int .i64 v15.1.Y),.d (.int .i64 v15.1.Z)],[.own 0 (List.map encApiMove v15.2)],[.d (.int .i64 e2.X),.d (.int .i64 e2.Y)],[.d (.int .i64 e2.X),.d (.int .i64 e2.Y),.d (.int .i64 a0.R)]],[(133,v15.2.length)]⟩) (fun _=>rfl) ?_ ?_) h
 refine .cond rfl (fun h16=>?_) (fun h16=>?_)
 refine .bind fun v14 h17=>.region fun e h=>?_
 simp only [seval,EMB,fld_130_0,sz_2,ag_2,fld_130_1,fld_64_5,zero_24,pl_24,eInt]
 refine SpecS.inl Tryd.func68 rfl (by kernel_rfl) (by kernel_rfl) (fun v14 : ApiPos × (List ApiMove)=>.tuple []) (fun v14=>⟨[[.d (.int .i64 a0.Code),.d (.int .i64 a0.R),.d (.int .i64 a0.Z),.d (.int .i64 a0.Q),.d (.int .i64 a0.Rate),.d (.int .i64 a0.Initial),.d (.bool a0.High)],[.d (.int .i64 v14.1.X),.d (.int .i64 v14.1.Y),.d (.int .i64 v14.1.Z)],[.own 0 (List.map encApiMove v14.2)],[.d (.int .i64 e2.X),.d (.int .i64 e2.Y)],[.d (.int .i64 e2.X),.d (.int .i64 e2.Y),.d (.int .i64 a0.R)]],[(133,v14.2.length)]⟩) h17 rfl ?_ ?_
 simp only [List.replicate,List.length,nS,nA,Tryd.ntmps68,SV]
 refine .sR fun e h=>?_
 simp only [seval,EMB,eInt]
 refine mU e (.sR fun e h=>?_) h
 simp only [seval,EMB,ag_24,sz_24,gE_24,eInt]
 refine mU e (.cond rfl (fun h18=>?_) (fun h18=>?_)) h
 refine .seqK (.guard fun q11=>.region fun e h=>?_)
 simp only [seval,EMB,ag_126,sz_126,ag_24,sz_24,zero_133,pl_133,und_126,sz_133,(oL 7),app_126,al_ApiMove,q11,eInt]
 refine mU e (.region fun e h=>?_) h
 simp only [seval,EMB,ag_24,sz_24,eInt]
 cases h
 simp only [seval,FMB,eInt,Tryd.results68]
 refine .skip fun e h=>?_
 cases h
 simp only [seval,FMB,eInt,Tryd.results68]
 simp only [seval,EMB,eInt]
 cases h
 simp only [seval,FMB,eInt,Tryd.results60]
 refine .skip fun e h=>?_
 cases h
 simp only [seval,FMB,eInt,Tryd.results60]
 intro v15
 refine Mir.toK (.sR fun e h=>?_)
 simp only [seval,EMB,ag_126,sz_126,und_126,eInt]
 refine mU e (.cond rfl (fun h19=>?_) (fun h19=>?_)) h
 refine .sR fun e h=>?_
 simp only [seval,EMB,eInt]
 refine mU e (.ret fun e h=>?_) h
 cases h
 simp only [seval,FMB,eInt,Tryd.results60]
 refine .skip fun e h=>?_
 cases h
 simp only [seval,FMB,eInt,Tryd.results60]
 intro v16
 refine Mir.toK (.region fun e h=>?_)
 simp only [seval,EMB,eInt]
 cases h
 simp only [seval,FMB,eInt,Tryd.results60,q2]
 intro v5 q12
 refine .sR fun e h=>?_
 simp only [seval,EMB,q12,eInt]
 refine mU e (.seqK (.condF rfl (.exit fun e h=>?_))) h
 cases h
 simp only [seval,FMB,eInt,Tryd.results60]
 intro v17
 refine Mir.toK (.sR fun e h=>?_)
 simp only [seval,EMB,ag_126,sz_126,eInt]
 refine mU e (.ret fun e h=>?_) h
 cases h
 simp only [seval,FMB,eInt,Tryd.results60]
def inp_canned (a0 : ModalState) (a1 : CycleCycle) (a2 : ApiBlock) (a3 : ApiPos) (a4 : ApiPos) : Option ((List InterpreterReached) × CycleCycle × Int) := bindO (if (!((a1.Code == 0) && ((a1.R == 0) && ((a1.Z == 0) && ((a1.Q == 0) && ((a1.Rate == 0) && ((a1.Initial == 0) && (a1.High == false)))))))) = true then some a1.Initial else some a3.Z) fun (v1 : Int)=>bindO (cy_Read a2 a0.Motion a0.Feed v1 (a0.Return == 98000) a1) fun (y1 : CycleCycle × Int)=>if (y1.2 != 0) = true then some ([],CycleCycle.mk 0 0 0 0 0 0 false,y1.2) else bindO (cy_Expand y1.1 a3 [ApiGrid2.mk a4.X a4.Y]) fun (y2 : (List ApiMove) × Int)=>if (y2.2 != 0) = true then some ([],CycleCycle.mk 0 0 0 0 0 0 false,y2.2) else bindO (guardO (okIdx y2.1) ( rangeX (fun (i1 : Nat) (e1 : ApiMove) (v2 : (List InterpreterReached))=>guardO (okLen (v2.length + 1)) ( some (.go (v2 ++ [InterpreterReached.mk e1.To e1.Rate])))) (fun (v2 : (List InterpreterReached))=>some v2) y2.1 0 [])) fun (v3 : (List InterpreterReached))=>some (v3,y1.1,0)
theorem inp_canned_spec {a0 : ModalState} {a1 : CycleCycle} {a2 : ApiBlock} {a3 : ApiPos} {a4 : ApiPos} {y : (List InterpreterReached) × CycleCycle × Int} (h : inp_canned a0 a1 a2 a3 a4 = some y) : Spec gP 52 [.agg [.d (.int .i64 a0.Motion),.d (.int .i64 a0.Distance),.d (.int .i64 a0.Work),.d (.int .i64 a0.Length),.d (.int .i64 a0.Return),.d (.int .i64 a0.Feed),.d (.int .i64 a0.Tool),.d (.int .i64 a0.Offset)],.agg [.d (.int .i64 a1.Code),.d (.int .i64 a1.R),.d (.int .i64 a1.Z),.d (.int .i64 a1.Q),.d (.int .i64 a1.Rate),.d (.int .i64 a1.Initial),.d (.bool a1.High)],.agg [.d (.bool a2.Skip),.d (.list (List.map encApiWord a2.Words)),.d (.str a2.Comment)],.agg [.d (.int .i64 a3.X),.d (.int .i64 a3.Y),.d (.int .i64 a3.Z)],.agg [.d (.int .i64 a4.X),.d (.int .i64 a4.Y),.d (.int .i64 a4.Z)]] (.tuple [.d (.list (List.map encInterpreterReached y.1)),.agg [.d (.int .i64 y.2.1.Code),.d (.int .i64 y.2.1.R),.d (.int .i64 y.2.1.Z),.d (.int .i64 y.2.1.Q),.d (.int .i64 y.2.1.Rate),.d (.int .i64 y.2.1.Initial),.d (.bool y.2.1.High)],.d (.int .i64 y.2.2)]) := by
 refine spec_mir Tryd.func52 rfl (by kernel_rfl) (by kernel_rfl) (fun y : (List InterpreterReached) × CycleCycle × Int=>.tuple [.d (.list (List.map encInterpreterReached y.1)),.agg [.d (.int .i64 y.2.1.Code),.d (.int .i64 y.2.1.R),.d (.int .i64 y.2.1.Z),.d (.int .i64 y.2.1.Q),.d (.int .i64 y.2.1.Rate),.d (.int .i64 y.2.1.Initial),.d (.bool y.2.1.High)],.d (.int .i64 y.2.2)]) ?_ h
 unfold inp_canned
 simp only [List.replicate,List.length,nS,nA,Tryd.ntmps52,SV]
 refine .sR fun e h=>?_
 simp only [seval,EMB,zero_64]
 refine mU e (.sR fun e h=>?_) h
 simp only [seval,EMB,fld_24_2,sz_2,ag_2]
 refine mU e (.seqK (.sR fun e h=>?_)) h
 simp only [seval,EMB,ag_64,sz_64,zero_64,pl_64,gE_64]
 refine mU e (Mir.joinO (fun v1 : Int=>([U,U,U,U,U,.ptr 0 0,.ptr 1 0,.ptr 2 0,.ptr 3 0,.ptr 4 0,U,.ptr 5 0,U,.d (.int .i64 v1)] ++ us 64)) (fun v1=>⟨[[.d (.int .i64 a0.Motion),.d (.int .i64 a0.Distance),.d (.int .i64 a0.Work),.d (.int .i64 a0.Length),.d (.int .i64 a0.Return),.d (.int .i64 a0.Feed),.d (.int .i64 a0.Tool),.d (.int .i64 a0.Offset)],[.d (.int .i64 a1.Code),.d (.int .i64 a1.R),.d (.int .i64 a1.Z),.d (.int .i64 a1.Q),.d (.int .i64 a1.Rate),.d (.int .i64 a1.Initial),.d (.bool a1.High)],[.d (.bool a2.Skip),.d (.list (List.map encApiWord a2.Words)),.d (.str a2.Comment)],[.d (.int .i64 a3.X),.d (.int .i64 a3.Y),.d (.int .i64 a3.Z)],[.d (.int .i64 a4.X),.d (.int .i64 a4.Y),.d (.int .i64 a4.Z)],[.d (.int .i64 0),.d (.int .i64 0),.d (.int .i64 0),.d (.int .i64 0),.d (.int .i64 0),.d (.int .i64 0),.d (.bool false)]],[]⟩) (fun _=>rfl) ?_ ?_) h
 refine .cond rfl (fun hb2=>?_) (fun hb2=>?_)
 refine .region fun e h=>?_
 simp only [seval,EMB,fld_64_5,sz_2,ag_2]
 cases h
 simp only [seval,FMB,Tryd.results52,ag_64,sz_64]
 refine .skip fun e h=>?_
 cases h
 simp only [seval,FMB,Tryd.results52,ag_64,sz_64]
 intro v1
 refine Mir.toK (.seqK (.bind fun y1 hy3=>.region fun e h=>?_))
 simp only [seval,EMB,ag_41,sz_41,fld_34_0,sz_2,ag_2,fld_34_5,fld_34_4,ag_64,sz_64]
 refine SpecS.by (cy_Read_spec hy3) (by simp only [seval,FMB]) ?_
 simp only [seval,EMB,zero_64,sz_64]
 refine mU e (.seqK (.sR fun e h=>?_)) h
 simp only [seval,EMB]
 refine mU e (.cond rfl (fun hb5=>?_) (fun hb5=>?_)) h
 refine .sR fun e h=>?_
 simp only [seval,EMB,zero_64,pl_64,sz_64]
 refine mU e (.ret fun e h=>?_) h
 cases h
 simp only [seval,FMB,Tryd.results52,ag_64,sz_64]
 refine .skip (Mir.toK (.seqK (.bind fun y2 hy6=>.region fun e h=>?_)))
 simp only [seval,EMB,ag_64,sz_64,ag_24,sz_24,fld_24_0,sz_2,ag_2,fld_24_1,zero_130,pl_130,und_131,sz_130,(oL 2)]
 refine SpecS.by (cy_Expand_spec hy6) (by simp only [seval,FMB]) ?_
 simp only [seval,EMB]
 refine mU e (.seqK (.sR fun e h=>?_)) h
 simp only [seval,EMB]
 refine mU e (.cond rfl (fun hb8=>?_) (fun hb8=>?_)) h
 refine .sR fun e h=>?_
 simp only [seval,EMB,zero_64,pl_64,sz_64]
 refine mU e (.ret fun e h=>?_) h
 cases h
 simp only [seval,FMB,Tryd.results52,ag_64,sz_64]
 refine .skip (Mir.toK (.sR fun e h=>?_))
 simp only [seval,EMB]
 refine mU e (.seqK (.sR fun e h=>?_)) h
 simp only [seval,EMB,und_126]
 refine mU e (.gh [.slot 17 93] rfl (Mir.joinO (fun v3 : (List InterpreterReached)=>([U,U,U,U,U,U,U,U,U,U,U,.ptr 5 0,U,U,.ptr 6 0,U,U,.own 0 (List.map encInterpreterReached v3)] ++ us 60)) (fun v3=>⟨[[.d (.int .i64 a0.Motion),.d (.int .i64 a0.Distance),.d (.int .i64 a0.Work),.d (.int .i64 a0.Length),.d (.int .i64 a0.Return),.d (.int .i64 a0.Feed),.d (.int .i64 a0.Tool),.d (.int .i64 a0.Offset)],[.d (.int .i64 a1.Code),.d (.int .i64 a1.R),.d (.int .i64 a1.Z),.d (.int .i64 a1.Q),.d (.int .i64 a1.Rate),.d (.int .i64 a1.Initial),.d (.bool a1.High)],[.d (.bool a2.Skip),.d (.list (List.map encApiWord a2.Words)),.d (.str a2.Comment)],[.d (.int .i64 a3.X),.d (.int .i64 a3.Y),.d (.int .i64 a3.Z)],[.d (.int .i64 a4.X),.d (.int .i64 a4.Y),.d (.int .i64 a4.Z)],[.d (.int .i64 0),.d (.int .i64 0),.d (.int .i64 0),.d (.int .i64 0),.d (.int .i64 0),.d (.int .i64 0),.d (.bool false)],[.d (.int .i64 y1.1.Code),.d (.int .i64 y1.1.R),.d (.int .i64 y1.1.Z),.d (.int .i64 y1.1.Q),.d (.int .i64 y1.1.Rate),.d (.int .i64 y1.1.Initial),.d (.bool y1.1.High)]],[(93,v3.length)]⟩) (fun _=>rfl) ?_ ?_)) h
 refine .block (.guard fun qg73=>Mir.range (fun (i1 : Nat) (v2 : (List InterpreterReached))=>([U,U,U,U,U,U,U,U,U,U,U,.ptr 5 0,U,U,.ptr 6 0,U,U,.own 0 (List.map encInterpreterReached v2),U,U,U,U,U,U,U,U,U,U,U,U,U,U,U,U,U,U,U,U,U,U,U,U,U,U,U,U,U,U,U,U,U,U,U,U,U,U,U,U,U,U,U,.d (.list (List.map encApiMove y2.1)),.d (.int .i64 (y2.1.length : Int)),.d (.int .i64 (i1 : Int))] ++ us 14)) (fun i1 v2=>⟨[[.d (.int .i64 a0.Motion),.d (.int .i64 a0.Distance),.d (.int .i64 a0.Work),.d (.int .i64 a0.Length),.d (.int .i64 a0.Return),.d (.int .i64 a0.Feed),.d (.int .i64 a0.Tool),.d (.int .i64 a0.Offset)],[.d (.int .i64 a1.Code),.d (.int .i64 a1.R),.d (.int .i64 a1.Z),.d (.int .i64 a1.Q),.d (.int .i64 a1.Rate),.d (.int .i64 a1.Initial),.d (.bool a1.High)],[.d (.bool a2.Skip),.d (.list (List.map encApiWord a2.Words)),.d (.str a2.Comment)],[.d (.int .i64 a3.X),.d (.int .i64 a3.Y),.d (.int .i64 a3.Z)],[.d (.int .i64 a4.X),.d (.int .i64 a4.Y),.d (.int .i64 a4.Z)],[.d (.int .i64 0),.d (.int .i64 0),.d (.int .i64 0),.d (.int .i64 0),.d (.int .i64 0),.d (.int .i64 0),.d (.bool false)],[.d (.int .i64 y1.1.Code),.d (.int .i64 y1.1.R),.d (.int .i64 y1.1.Z),.d (.int .i64 y1.1.Q),.d (.int .i64 y1.1.Rate),.d (.int .i64 y1.1.Initial),.d (.bool y1.1.High)]],[(93,v2.length)]⟩) qg73 (fun _ _=>rfl) (by simp only [seval,FMB,zNI]) (by simp only [seval,FMB,zNI]) ?_ ?_)
 intro i1 e1 v2 qr71
 refine .sR fun e h=>?_
 simp only [seval,EMB,qr71]
 refine mU e (.seqK (.condT rfl (.skip (Mir.toK (.seqK (.block (.sR fun e h=>?_))))))) h
 simp only [seval,EMB,und_126,sz_133,qr71,Int.toNat_natCast,ag_133,zero_133]
 refine mU e (.guard fun q75=>.region fun e h=>?_) h
 simp only [seval,EMB,fld_133_1,sz_24,ag_24,fld_133_3,sz_2,ag_2,zero_93,pl_93,und_89,sz_93,(oL 4),app_89,al_InterpreterReached,q75]
 refine mU e (.region fun e h=>?_) h
 simp only [seval,EMB]
 cases h
 simp only [seval,FMB,Tryd.results52,ag_64,sz_64,qr71]
 intro v2 qd72
 refine .sR fun e h=>?_
 simp only [seval,EMB,qd72]
 refine mU e (.seqK (.condF rfl (.exit fun e h=>?_))) h
 cases h
 simp only [seval,FMB,Tryd.results52,ag_64,sz_64]
 intro v3
 refine Mir.toK (.seqK (.regionD [] (by kernel_rfl) fun e h=>?_))
 simp only [seval,EMB,SB,ag_64,sz_64]
 refine mU e (.ret fun e h=>?_) h
 cases h
 simp only [seval,FMB,Tryd.results52,ag_64,sz_64]
def inp_value (a0 : ApiBlock) (a1 : Int) : Option Int := bindO (bk_Find a0 a1) fun (y1 : Int × Bool)=>some y1.1
theorem inp_value_spec {a0 : ApiBlock} {a1 : Int} {y : Int} (h : inp_value a0 a1 = some y) : Spec gP 61 [.agg [.d (.bool a0.Skip),.d (.list (List.map encApiWord a0.Words)),.d (.str a0.Comment)],.d (.int .u8 a1)] (.d (.int .i64 y)) := by
 refine spec_mir Tryd.func61 rfl (by kernel_rfl) (by kernel_rfl) (fun y : Int=>.d (.int .i64 y)) ?_ h
 unfold inp_value
 simp only [List.replicate,List.length,nS,nA,Tryd.ntmps61,SV]
 refine .sR fun e h=>?_
 simp only [seval,EMB]
 refine mU e (.seqK (.bind fun y1 hy1=>.region fun e h=>?_)) h
 simp only [seval,EMB,ag_41,sz_41]
 refine SpecS.by (bk_Find_spec hy1) (by simp only [seval,FMB]) ?_
 simp only [seval,EMB]
 refine mU e (.sR fun e h=>?_) h
 simp only [seval,EMB]
 refine mU e (.ret fun e h=>?_) h
 cases h
 simp only [seval,FMB,Tryd.results61]
def ip_isArc (a0 : ApiMove) : Option Bool := some ((a0.Kind == 3) || (a0.Kind == 4))
theorem ip_isArc_spec {a0 : ApiMove} {y : Bool} (h : ip_isArc a0 = some y) : Spec gP 77 [.agg [.d (.int .i64 a0.Kind),.d (.int .i64 a0.To.X),.d (.int .i64 a0.To.Y),.d (.int .i64 a0.To.Z),.d (.int .i64 a0.Center.X),.d (.int .i64 a0.Center.Y),.d (.int .i64 a0.Rate)]] (.d (.bool y)) := by
 refine spec_mir Tryd.func77 rfl (by kernel_rfl) (by kernel_rfl) (fun y : Bool=>.d (.bool y)) ?_ h
 unfold ip_isArc
 simp only [List.replicate,List.length,nS,nA,Tryd.ntmps77,SV]
 refine .sR fun e h=>?_
 simp only [seval,EMB]
 refine mU e (.seqK (.joinV ([U,U,.d (.bool ((a0.Kind == 3) || (a0.Kind == 4)))] ++ us 8) ⟨[[.d (.int .i64 a0.Kind),.d (.int .i64 a0.To.X),.d (.int .i64 a0.To.Y),.d (.int .i64 a0.To.Z),.d (.int .i64 a0.Center.X),.d (.int .i64 a0.Center.Y),.d (.int .i64 a0.Rate)]],[]⟩ rfl ?_ ?_)) h
 refine SWs.region ?_
 rcases Bool.eq_false_or_eq_true (a0.Kind == 3) with hb1 | hb1
 simp only [seval,EMB,SL,PB,fld_133_0,sz_3,ag_3,hb1]
 simp only [seval,EMB,SL,PB,fld_133_0,sz_3,ag_3,hb1]
 refine Mir.toK (.ret fun e h=>?_)
 cases h
 simp only [seval,FMB,Tryd.results77]
def ip_apart (a0 : Int) (a1 : Int) : Option Int := bindO (if (decide (a0 < a1)) = true then some (a1,a0) else some (a0,a1)) fun (v1 : Int × Int)=>some (IntKind.u64.wrap ((IntKind.u64.wrap v1.1) - (IntKind.u64.wrap v1.2)))
theorem ip_apart_spec {a0 : Int} {a1 : Int} {y : Int} (h : ip_apart a0 a1 = some y) : Spec gP 79 [.d (.int .i64 a0),.d (.int .i64 a1)] (.d (.int .u64 y)) := by
 refine spec_mir Tryd.func79 rfl (by kernel_rfl) (by kernel_rfl) (fun y : Int=>.d (.int .u64 y)) ?_ h
 unfold ip_apart
 simp only [List.replicate,List.length,nS,nA,Tryd.ntmps79,SV]
 refine .sR fun e h=>?_
 simp only [seval,EMB]
 refine mU e (.seqK (.sR fun e h=>?_)) h
 simp only [seval,EMB]
 refine mU e (Mir.joinO (fun v1 : Int × Int=>([.d (.int .i64 v1.1),.d (.int .i64 v1.2)] ++ us 13)) (fun v1=>⟨[],[]⟩) (fun _=>rfl) ?_ ?_) h
 refine .cond rfl (fun hb2=>?_) (fun hb2=>?_)
 refine .region fun e h=>?_
 simp only [seval,EMB]
 cases h
 simp only [seval,FMB,Tryd.results79]
 refine .skip fun e h=>?_
 cases h
 simp only [seval,FMB,Tryd.results79]
 intro v1
 refine Mir.toK (.sR fun e h=>?_)
 simp only [seval,EMB,und_2,und_145]
 refine mU e (.ret fun e h=>?_) h
 cases h
 simp only [seval,FMB,Tryd.results79]
def ip_point (a0 : ApiPos) (a1 : ApiGrid2) : Option (Int × Int) := if ((a0.Y == a1.Y) && (decide (a0.X > a1.X))) = true then bindO (ip_apart a0.X a1.X) fun (y1 : Int)=>some (0,y1) else if ((a0.X == a1.X) && (decide (a0.Y > a1.Y))) = true then bindO (ip_apart a0.Y a1.Y) fun (y2 : Int)=>some (1,y2) else if ((a0.Y == a1.Y) && (decide (a0.X < a1.X))) = true then bindO (ip_apart a0.X a1.X) fun (y3 : Int)=>some (2,y3) else if ((a0.X == a1.X) && (decide (a0.Y < a1.Y))) = true then bindO (ip_apart a0.Y a1.Y) fun (y4 : Int)=>some (3,y4) else some (0,0)
theorem ip_point_spec {a0 : ApiPos} {a1 : ApiGrid2} {y : Int × Int} (h : ip_point a0 a1 = some y) : Spec gP 70 [.agg [.d (.int .i64 a0.X),.d (.int .i64 a0.Y),.d (.int .i64 a0.Z)],.agg [.d (.int .i64 a1.X),.d (.int .i64 a1.Y)]] (.tuple [.d (.int .i64 y.1),.d (.int .u64 y.2)]) := by
 refine spec_mir Tryd.func70 rfl (by kernel_rfl) (by kernel_rfl) (fun y : Int × Int=>.tuple [.d (.int .i64 y.1),.d (.int .u64 y.2)]) ?_ h
 unfold ip_point
 simp only [List.replicate,List.length,nS,nA,Tryd.ntmps70,SV]
 refine .sR fun e h=>?_
 simp only [seval,EMB]
 refine mU e (.seqK (.block (.seqK (.joinV ([U,U,.ptr 0 0,.ptr 1 0,U,U,.d (.bool ((a0.Y == a1.Y) && (decide (a0.X > a1.X))))] ++ us 71) ⟨[[.d (.int .i64 a0.X),.d (.int .i64 a0.Y),.d (.int .i64 a0.Z)],[.d (.int .i64 a1.X),.d (.int .i64 a1.Y)]],[]⟩ rfl ?_ ?_)))) h
 refine SWs.region ?_
 rcases Bool.eq_false_or_eq_true (a0.Y == a1.Y) with hb13 | hb13
 simp only [seval,EMB,SL,PB,fld_24_1,sz_2,ag_2,fld_130_1,fld_24_0,fld_130_0,hb13]
 simp only [seval,EMB,SL,PB,fld_24_1,sz_2,ag_2,fld_130_1,hb13]
 refine Mir.toK (.cond rfl (fun hb25=>?_) (fun hb25=>?_))
 refine .seqK (.bind fun y1 hy26=>.region fun e h=>?_)
 simp only [seval,EMB,fld_24_0,sz_2,ag_2,fld_130_0]
 refine SpecS.by (ip_apart_spec hy26) (by simp only [seval,FMB]) ?_
 simp only [seval,EMB]
 refine mU e (.ret fun e h=>?_) h
 cases h
 simp only [seval,FMB,Tryd.results70]
 refine .seqK (.joinV ([U,U,.ptr 0 0,.ptr 1 0,U,U,U,U,U,U,U,U,U,U,U,U,U,U,U,U,U,U,U,U,.d (.bool ((a0.X == a1.X) && (decide (a0.Y > a1.Y))))] ++ us 53) ⟨[[.d (.int .i64 a0.X),.d (.int .i64 a0.Y),.d (.int .i64 a0.Z)],[.d (.int .i64 a1.X),.d (.int .i64 a1.Y)]],[]⟩ rfl ?_ ?_)
 refine SWs.region ?_
 rcases Bool.eq_false_or_eq_true (a0.X == a1.X) with hb27 | hb27
 simp only [seval,EMB,SL,PB,fld_24_0,sz_2,ag_2,fld_130_0,fld_24_1,fld_130_1,hb27]
 simp only [seval,EMB,SL,PB,fld_24_0,sz_2,ag_2,fld_130_0,hb27]
 refine Mir.toK (.cond rfl (fun hb36=>?_) (fun hb36=>?_))
 refine .seqK (.bind fun y2 hy37=>.region fun e h=>?_)
 simp only [seval,EMB,fld_24_1,sz_2,ag_2,fld_130_1]
 refine SpecS.by (ip_apart_spec hy37) (by simp only [seval,FMB]) ?_
 simp only [seval,EMB]
 refine mU e (.ret fun e h=>?_) h
 cases h
 simp only [seval,FMB,Tryd.results70]
 refine .seqK (.joinV ([U,U,.ptr 0 0,.ptr 1 0,U,U,U,U,U,U,U,U,U,U,U,U,U,U,U,U,U,U,U,U,U,U,U,U,U,U,U,U,U,U,U,U,U,U,U,U,U,U,.d (.bool ((a0.Y == a1.Y) && (decide (a0.X < a1.X))))] ++ us 35) ⟨[[.d (.int .i64 a0.X),.d (.int .i64 a0.Y),.d (.int .i64 a0.Z)],[.d (.int .i64 a1.X),.d (.int .i64 a1.Y)]],[]⟩ rfl ?_ ?_)
 refine SWs.region ?_
 rcases Bool.eq_false_or_eq_true (a0.Y == a1.Y) with hb38 | hb38
 simp only [seval,EMB,SL,PB,fld_24_1,sz_2,ag_2,fld_130_1,fld_24_0,fld_130_0,hb38]
 simp only [seval,EMB,SL,PB,fld_24_1,sz_2,ag_2,fld_130_1,hb38]
 refine Mir.toK (.cond rfl (fun hb44=>?_) (fun hb44=>?_))
 refine .seqK (.bind fun y3 hy45=>.region fun e h=>?_)
 simp only [seval,EMB,fld_24_0,sz_2,ag_2,fld_130_0]
 refine SpecS.by (ip_apart_spec hy45) (by simp only [seval,FMB]) ?_
 simp only [seval,EMB]
 refine mU e (.ret fun e h=>?_) h
 cases h
 simp only [seval,FMB,Tryd.results70]
 refine .seqK (.joinV ([U,U,.ptr 0 0,.ptr 1 0,U,U,U,U,U,U,U,U,U,U,U,U,U,U,U,U,U,U,U,U,U,U,U,U,U,U,U,U,U,U,U,U,U,U,U,U,U,U,U,U,U,U,U,U,U,U,U,U,U,U,U,U,U,U,U,U,.d (.bool ((a0.X == a1.X) && (decide (a0.Y < a1.Y))))] ++ us 17) ⟨[[.d (.int .i64 a0.X),.d (.int .i64 a0.Y),.d (.int .i64 a0.Z)],[.d (.int .i64 a1.X),.d (.int .i64 a1.Y)]],[]⟩ rfl ?_ ?_)
 refine SWs.region ?_
 rcases Bool.eq_false_or_eq_true (a0.X == a1.X) with hb46 | hb46
 simp only [seval,EMB,SL,PB,fld_24_0,sz_2,ag_2,fld_130_0,fld_24_1,fld_130_1,hb46]
 simp only [seval,EMB,SL,PB,fld_24_0,sz_2,ag_2,fld_130_0,hb46]
 refine Mir.toK (.cond rfl (fun hb49=>?_) (fun hb49=>?_))
 refine .seqK (.bind fun y4 hy50=>.region fun e h=>?_)
 simp only [seval,EMB,fld_24_1,sz_2,ag_2,fld_130_1]
 refine SpecS.by (ip_apart_spec hy50) (by simp only [seval,FMB]) ?_
 simp only [seval,EMB]
 refine mU e (.ret fun e h=>?_) h
 cases h
 simp only [seval,FMB,Tryd.results70]
 refine .skip (Mir.toB (Mir.toK (.sR fun e h=>?_)))
 simp only [seval,EMB]
 refine mU e (.ret fun e h=>?_) h
 cases h
 simp only [seval,FMB,Tryd.results70]
def ip_right (a0 : ApiPos) (a1 : ApiMove) : Option Bool := if (a1.Kind == 1) = true then some (a1.Rate == 0) else if (a1.Kind == 2) = true then some (decide (a1.Rate > 0)) else bindO (ip_point a0 a1.Center) fun (y1 : Int × Int)=>bindO (ip_point a1.To a1.Center) fun (y2 : Int × Int)=>bindO (bindO (ip_isArc (ApiMove.mk a1.Kind a1.To a1.Center a1.Rate)) fun (y3 : Bool)=>if y3 = true then if (decide (a1.Rate > 0)) = true then if (decide (y1.2 > 0)) = true then some (y1.2 == y2.2) else some false else some false else some false) fun (v1 : Bool)=>some v1
theorem ip_right_spec {a0 : ApiPos} {a1 : ApiMove} {y : Bool} (h : ip_right a0 a1 = some y) : Spec gP 81 [.agg [.d (.int .i64 a0.X),.d (.int .i64 a0.Y),.d (.int .i64 a0.Z)],.agg [.d (.int .i64 a1.Kind),.d (.int .i64 a1.To.X),.d (.int .i64 a1.To.Y),.d (.int .i64 a1.To.Z),.d (.int .i64 a1.Center.X),.d (.int .i64 a1.Center.Y),.d (.int .i64 a1.Rate)]] (.d (.bool y)) := by
 refine spec_mir Tryd.func81 rfl (by kernel_rfl) (by kernel_rfl) (fun y : Bool=>.d (.bool y)) ?_ h
 unfold ip_right
 simp only [List.replicate,List.length,nS,nA,Tryd.ntmps81,SV]
 refine .sR fun e h=>?_
 simp only [seval,EMB]
 refine mU e (.seqK (.sR fun e h=>?_)) h
 simp only [seval,EMB,fld_133_0,sz_3,ag_3]
 refine mU e (.block (.sR fun e h=>?_)) h
 simp only [seval,EMB]
 refine mU e (.cond rfl (fun hb5=>?_) (fun hb5=>?_)) h
 refine .sR fun e h=>?_
 simp only [seval,EMB,fld_133_3,sz_2,ag_2]
 refine mU e (.ret fun e h=>?_) h
 cases h
 simp only [seval,FMB,Tryd.results81]
 refine .sR fun e h=>?_
 simp only [seval,EMB]
 refine mU e (.cond rfl (fun hb7=>?_) (fun hb7=>?_)) h
 refine .sR fun e h=>?_
 simp only [seval,EMB,fld_133_3,sz_2,ag_2]
 refine mU e (.ret fun e h=>?_) h
 cases h
 simp only [seval,FMB,Tryd.results81]
 refine .skip (Mir.toB (Mir.toK (.seqK (.bind fun y1 hy8=>.region fun e h=>?_))))
 simp only [seval,EMB,ag_24,sz_24,fld_133_2,sz_130,ag_130]
 refine SpecS.by (ip_point_spec hy8) (by simp only [seval,FMB]) ?_
 simp only [seval,EMB]
 refine mU e (.seqK (.bind fun y2 hy9=>.region fun e h=>?_)) h
 simp only [seval,EMB,fld_133_1,sz_24,ag_24,fld_133_2,sz_130,ag_130]
 refine SpecS.by (ip_point_spec hy9) (by simp only [seval,FMB]) ?_
 simp only [seval,EMB]
 refine mU e (.seqK (Mir.joinO (fun v1 : Bool=>([U,U,U,U,.d (.bool v1)] ++ us 47)) (fun v1=>⟨[[.d (.int .i64 a0.X),.d (.int .i64 a0.Y),.d (.int .i64 a0.Z)],[.d (.int .i64 a1.Kind),.d (.int .i64 a1.To.X),.d (.int .i64 a1.To.Y),.d (.int .i64 a1.To.Z),.d (.int .i64 a1.Center.X),.d (.int .i64 a1.Center.Y),.d (.int .i64 a1.Rate)]],[]⟩) (fun _=>rfl) ?_ ?_)) h
 refine .bind fun y3 hy10=>.ite (fun hb11=>?_) (fun hb11=>?_)
 refine .ite (fun hb12=>?_) (fun hb12=>?_)
 refine .ite (fun hb13=>?_) (fun hb13=>?_)
 refine .region fun e h=>?_
 simp only [seval,EMB,ag_133,sz_133,hb11,hb12,hb13]
 refine SpecS.by (ip_isArc_spec hy10) (by simp only [seval,FMB,hb11,hb12,hb13]) ?_
 simp only [seval,EMB,fld_133_3,sz_2,ag_2,hb11,hb12,hb13]
 cases h
 simp only [seval,FMB,hb11,hb12,hb13]
 refine .region fun e h=>?_
 simp only [seval,EMB,ag_133,sz_133,hb11,hb12,hb13]
 refine SpecS.by (ip_isArc_spec hy10) (by simp only [seval,FMB,hb11,hb12,hb13]) ?_
 simp only [seval,EMB,fld_133_3,sz_2,ag_2,hb11,hb12,hb13]
 cases h
 simp only [seval,FMB,hb11,hb12,hb13]
 refine .region fun e h=>?_
 simp only [seval,EMB,ag_133,sz_133,hb11,hb12]
 refine SpecS.by (ip_isArc_spec hy10) (by simp only [seval,FMB,hb11,hb12]) ?_
 simp only [seval,EMB,fld_133_3,sz_2,ag_2,hb11,hb12]
 cases h
 simp only [seval,FMB,hb11,hb12]
 refine .region fun e h=>?_
 simp only [seval,EMB,ag_133,sz_133,hb11]
 refine SpecS.by (ip_isArc_spec hy10) (by simp only [seval,FMB,hb11]) ?_
 simp only [seval,EMB,hb11]
 cases h
 simp only [seval,FMB,hb11]
 intro v1
 refine Mir.toK (.ret fun e h=>?_)
 cases h
 simp only [seval,FMB,Tryd.results81]
def ip_Valid (a0 : ApiPos) (a1 : ApiMove) : Option Int := bindO (ip_right a0 (ApiMove.mk a1.Kind a1.To a1.Center a1.Rate)) fun (y1 : Bool)=>if (!y1) = true then some 1 else bindO (ip_isArc (ApiMove.mk a1.Kind a1.To a1.Center a1.Rate)) fun (y2 : Bool)=>bindX (if y2 = true then bindO (ip_point a0 a1.Center) fun (y3 : Int × Int)=>bindO (if (decide (y3.2 > 10000000)) = true then some true else bindO (ip_apart a1.Center.X 0) fun (y4 : Int)=>if (decide (y4 > 10000000)) = true then some true else bindO (ip_apart a1.Center.Y 0) fun (y5 : Int)=>some (decide (y5 > 10000000))) fun (v1 : Bool)=>if v1 = true then some (.ret 11) else some (.go [a0.X,a0.Y,a0.Z,a1.To.X,a1.To.Y,a1.To.Z,IntKind.i64.wrap (a1.Center.X + (IntKind.i64.wrap y3.2)),IntKind.i64.wrap (a1.Center.X - (IntKind.i64.wrap y3.2)),IntKind.i64.wrap (a1.Center.Y + (IntKind.i64.wrap y3.2)),IntKind.i64.wrap (a1.Center.Y - (IntKind.i64.wrap y3.2))]) else some (.go [a0.X,a0.Y,a0.Z,a1.To.X,a1.To.Y,a1.To.Z])) fun (v2 : (List Int))=>bindX (guardO (okIdx v2) ( rangeX (fun (i1 : Nat) (e1 : Int) (v3 : Unit)=>bindO (ip_apart e1 0) fun (y6 : Int)=>if (decide (y6 > 10000000)) = true then some (.ret (.ret 11)) else some (.go ())) (fun (v3 : Unit)=>some (.go ())) v2 0 ())) fun (v4 : Unit)=>some 0
theorem ip_Valid_spec {a0 : ApiPos} {a1 : ApiMove} {y : Int} (h : ip_Valid a0 a1 = some y) : Spec gP 78 [.agg [.d (.int .i64 a0.X),.d (.int .i64 a0.Y),.d (.int .i64 a0.Z)],.agg [.d (.int .i64 a1.Kind),.d (.int .i64 a1.To.X),.d (.int .i64 a1.To.Y),.d (.int .i64 a1.To.Z),.d (.int .i64 a1.Center.X),.d (.int .i64 a1.Center.Y),.d (.int .i64 a1.Rate)]] (.d (.int .i64 y)) := by
 refine spec_mir Tryd.func78 rfl (by kernel_rfl) (by kernel_rfl) (fun y : Int=>.d (.int .i64 y)) ?_ h
 unfold ip_Valid
 simp only [List.replicate,List.length,nS,nA,Tryd.ntmps78,SV]
 refine .sR fun e h=>?_
 simp only [seval,EMB,eInt]
 refine mU e (.seqK (.seqK (.bind fun y1 hy1=>.region fun e h=>?_))) h
 simp only [seval,EMB,ag_24,sz_24,ag_133,sz_133,eInt]
 refine SpecS.by (ip_right_spec hy1) (by simp only [seval,FMB,eInt]) ?_
 simp only [seval,EMB,eInt]
 refine mU e (.cond rfl (fun hb3=>?_) (fun hb3=>?_)) h
 refine .sR fun e h=>?_
 simp only [seval,EMB]
 refine mU e (.ret fun e h=>?_) h
 cases h
 simp only [seval,FMB,Tryd.results78]
 refine .skip (Mir.toK (.sR fun e h=>?_))
 simp only [seval,EMB,fld_24_0,sz_2,ag_2,fld_24_1,fld_24_2,fld_133_1,sz_24,und_69,zero_2,(oL 6),eInt]
 refine mU e (.seqK (.seqK (.bind fun y2 hy4=>.region fun e h=>?_))) h
 simp only [seval,EMB,ag_133,sz_133,eInt]
 refine SpecS.by (ip_isArc_spec hy4) (by simp only [seval,FMB,eInt]) ?_
 simp only [seval,EMB,eInt]
 refine mU e (Mir.join (fun v2 : (List Int)=>([U,U,U,U,U,.d (.list (List.map (eInt .i64) v2))] ++ us 85)) (fun v2=>⟨[[.d (.int .i64 a0.X),.d (.int .i64 a0.Y),.d (.int .i64 a0.Z)],[.d (.int .i64 a1.Kind),.d (.int .i64 a1.To.X),.d (.int .i64 a1.To.Y),.d (.int .i64 a1.To.Z),.d (.int .i64 a1.Center.X),.d (.int .i64 a1.Center.Y),.d (.int .i64 a1.Rate)]],[]⟩) (fun _=>rfl) ?_ ?_) h
 refine .cond rfl (fun hb13=>?_) (fun hb13=>?_)
 refine .seqK (.bind fun y3 hy14=>.region fun e h=>?_)
 simp only [seval,EMB,ag_24,sz_24,fld_133_2,sz_130,ag_130,eInt]
 refine SpecS.by (ip_point_spec hy14) (by simp only [seval,FMB,eInt]) ?_
 simp only [seval,EMB,eInt]
 refine mU e (.seqK (.seqK (Mir.joinO (fun v1 : Bool=>([U,U,U,.ptr 1 0,U,.full (List.map (eInt .i64) [a0.X,a0.Y,a0.Z,a1.To.X,a1.To.Y,a1.To.Z]),U,.d (.int .u64 y3.2),U,U,U,U,U,U,U,U,U,U,U,U,U,U,U,U,U,U,U,U,U,U,U,U,U,U,U,U,U,U,U,U,U,U,U,U,U,U,U,U,U,U,U,U,U,U,U,.d (.bool v1)] ++ us 35)) (fun v1=>⟨[[.d (.int .i64 a0.X),.d (.int .i64 a0.Y),.d (.int .i64 a0.Z)],[.d (.int .i64 a1.Kind),.d (.int .i64 a1.To.X),.d (.int .i64 a1.To.Y),.d (.int .i64 a1.To.Z),.d (.int .i64 a1.Center.X),.d (.int .i64 a1.Center.Y),.d (.int .i64 a1.Rate)]],[]⟩) (fun _=>rfl) ?_ ?_))) h
 refine .ite (fun hb15=>?_) (fun hb15=>?_)
 refine .region fun e h=>?_
 simp only [seval,EMB,eInt,hb15]
 cases h
 simp only [seval,FMB,eInt,hb15]
 refine .bind fun y4 hy16=>.ite (fun hb17=>?_) (fun hb17=>?_)
 refine .region fun e h=>?_
 simp only [seval,EMB,fld_133_2,sz_130,fld_130_0,sz_2,ag_2,eInt,hb15,hb17]
 refine SpecS.by (ip_apart_spec hy16) (by simp only [seval,FMB,eInt,hb15,hb17]) ?_
 simp only [seval,EMB,eInt,hb15,hb17]
 cases h
 simp only [seval,FMB,eInt,hb15,hb17]
 refine .bind fun y5 hy18=>.region fun e h=>?_
 simp only [seval,EMB,fld_133_2,sz_130,fld_130_0,sz_2,ag_2,eInt,hb15,hb17]
 refine SpecS.by (ip_apart_spec hy16) (by simp only [seval,FMB,eInt,hb15,hb17]) ?_
 simp only [seval,EMB,fld_133_2,sz_130,fld_130_1,sz_2,ag_2,eInt,hb15,hb17]
 refine SpecS.by (ip_apart_spec hy18) (by simp only [seval,FMB,eInt,hb15,hb17]) ?_
 simp only [seval,EMB,eInt,hb15,hb17]
 cases h
 simp only [seval,FMB,eInt,hb15,hb17]
 intro v1
 refine Mir.toK (.cond rfl (fun hb20=>?_) (fun hb20=>?_))
 refine .sR fun e h=>?_
 simp only [seval,EMB,eInt]
 refine mU e (.ret fun e h=>?_) h
 cases h
 simp only [seval,FMB,eInt,Tryd.results78]
 refine .skip (Mir.toK (.sR fun e h=>?_))
 simp only [seval,EMB,und_145,und_2,eInt]
 refine mU e (.region fun e h=>?_) h
 simp only [seval,EMB,fld_133_2,sz_130,fld_130_0,sz_2,ag_2,fld_130_1,und_69,zero_2,(oL 4),app_69,al_eInt,(oL 10),eInt]
 cases h
 simp only [seval,FMB,eInt,Tryd.results78]
 refine .skip fun e h=>?_
 cases h
 simp only [seval,FMB,eInt,Tryd.results78]
 intro v2
 refine Mir.toK (.seqK (.sR fun e h=>?_))
 simp only [seval,EMB,und_69,eInt]
 refine mU e (Mir.join (fun v4 : Unit=>(us 91)) (fun v4=>⟨[[.d (.int .i64 a0.X),.d (.int .i64 a0.Y),.d (.int .i64 a0.Z)],[.d (.int .i64 a1.Kind),.d (.int .i64 a1.To.X),.d (.int .i64 a1.To.Y),.d (.int .i64 a1.To.Z),.d (.int .i64 a1.Center.X),.d (.int .i64 a1.Center.Y),.d (.int .i64 a1.Rate)]],[]⟩) (fun _=>rfl) ?_ ?_) h
 refine .block (.guard fun qg85=>Mir.range (fun (i1 : Nat) (v3 : Unit)=>([U,U,U,U,U,U,U,U,U,U,U,U,U,U,U,U,U,U,U,U,U,U,U,U,U,U,U,U,U,U,U,U,U,U,U,U,U,U,U,U,U,U,U,U,U,U,U,U,U,U,U,U,U,U,U,U,U,U,U,U,U,U,U,U,U,U,U,U,U,U,U,U,U,U,U,U,U,U,U,U,U,.d (.list (List.map (eInt .i64) v2)),.d (.int .i64 (v2.length : Int)),.d (.int .i64 (i1 : Int))] ++ us 7)) (fun i1 v3=>⟨[[.d (.int .i64 a0.X),.d (.int .i64 a0.Y),.d (.int .i64 a0.Z)],[.d (.int .i64 a1.Kind),.d (.int .i64 a1.To.X),.d (.int .i64 a1.To.Y),.d (.int .i64 a1.To.Z),.d (.int .i64 a1.Center.X),.d (.int .i64 a1.Center.Y),.d (.int .i64 a1.Rate)]],[]⟩) qg85 (fun _ _=>rfl) (by simp only [seval,FMB,eInt,zNI]) (by simp only [seval,FMB,eInt,zNI]) ?_ ?_)
 intro i1 e1 v3 qr83
 refine .sR fun e h=>?_
 simp only [seval,EMB,qr83,eInt]
 refine mU e (.seqK (.condT rfl (.skip (Mir.toK (.seqK (.block (.sR fun e h=>?_))))))) h
 simp only [seval,EMB,und_69,sz_2,qr83,Int.toNat_natCast,ag_2,eInt]
 refine mU e (.seqK (.bind fun y6 hy88=>.region fun e h=>?_)) h
 simp only [seval,EMB,eInt]
 refine SpecS.by (ip_apart_spec hy88) (by simp only [seval,FMB,eInt]) ?_
 simp only [seval,EMB,eInt]
 refine mU e (.cond rfl (fun hb90=>?_) (fun hb90=>?_)) h
 refine .sR fun e h=>?_
 simp only [seval,EMB,eInt]
 refine mU e (.ret fun e h=>?_) h
 cases h
 simp only [seval,FMB,eInt,Tryd.results78]
 refine .skip (Mir.toB (Mir.toK (.region fun e h=>?_)))
 simp only [seval,EMB,eInt]
 cases h
 simp only [seval,FMB,eInt,Tryd.results78,qr83]
 intro v3 qd84
 refine .sR fun e h=>?_
 simp only [seval,EMB,qd84,eInt]
 refine mU e (.seqK (.condF rfl (.exit fun e h=>?_))) h
 cases h
 simp only [seval,FMB,eInt,Tryd.results78]
 intro v4
 refine Mir.toK (.sR fun e h=>?_)
 simp only [seval,EMB,eInt]
 refine mU e (.ret fun e h=>?_) h
 cases h
 simp only [seval,FMB,eInt,Tryd.results78]
def ip_Quarters (a0 : ApiPos) (a1 : ApiMove) : Option (Int × Int) := bindO (ip_isArc a1) fun (y1 : Bool)=>if (!y1) = true then some (0,1) else bindO (ip_Valid a0 (ApiMove.mk a1.Kind a1.To a1.Center a1.Rate)) fun (y2 : Int)=>if (y2 != 0) = true then some (0,y2) else bindO (ip_point a0 a1.Center) fun (y3 : Int × Int)=>bindO (ip_point a1.To a1.Center) fun (y4 : Int × Int)=>bindO (if (a1.Kind == 3) = true then some (IntKind.i64.wrap (0 - (IntKind.i64.wrap (y4.1 - y3.1)))) else some (IntKind.i64.wrap (y4.1 - y3.1))) fun (v1 : Int)=>bindO (if (decide (v1 ≤ 0)) = true then some (IntKind.i64.wrap (v1 + 4)) else some v1) fun (v2 : Int)=>some (v2,0)
theorem ip_Quarters_spec {a0 : ApiPos} {a1 : ApiMove} {y : Int × Int} (h : ip_Quarters a0 a1 = some y) : Spec gP 69 [.agg [.d (.int .i64 a0.X),.d (.int .i64 a0.Y),.d (.int .i64 a0.Z)],.agg [.d (.int .i64 a1.Kind),.d (.int .i64 a1.To.X),.d (.int .i64 a1.To.Y),.d (.int .i64 a1.To.Z),.d (.int .i64 a1.Center.X),.d (.int .i64 a1.Center.Y),.d (.int .i64 a1.Rate)]] (.tuple [.d (.int .i64 y.1),.d (.int .i64 y.2)]) := by
 refine spec_mir Tryd.func69 rfl (by kernel_rfl) (by kernel_rfl) (fun y : Int × Int=>.tuple [.d (.int .i64 y.1),.d (.int .i64 y.2)]) ?_ h
 unfold ip_Quarters
 simp only [List.replicate,List.length,nS,nA,Tryd.ntmps69,SV]
 refine .sR fun e h=>?_
 simp only [seval,EMB]
 refine mU e (.seqK (.seqK (.bind fun y1 hy1=>.region fun e h=>?_))) h
 simp only [seval,EMB,ag_133,sz_133]
 refine SpecS.by (ip_isArc_spec hy1) (by simp only [seval,FMB]) ?_
 simp only [seval,EMB]
 refine mU e (.cond rfl (fun hb3=>?_) (fun hb3=>?_)) h
 refine .sR fun e h=>?_
 simp only [seval,EMB]
 refine mU e (.ret fun e h=>?_) h
 cases h
 simp only [seval,FMB,Tryd.results69]
 refine .skip (Mir.toK (.seqK (.seqK (.bind fun y2 hy4=>.region fun e h=>?_))))
 simp only [seval,EMB,ag_24,sz_24,ag_133,sz_133]
 refine SpecS.by (ip_Valid_spec hy4) (by simp only [seval,FMB]) ?_
 simp only [seval,EMB]
 refine mU e (.sR fun e h=>?_) h
 simp only [seval,EMB]
 refine mU e (.cond rfl (fun hb6=>?_) (fun hb6=>?_)) h
 refine .sR fun e h=>?_
 simp only [seval,EMB]
 refine mU e (.ret fun e h=>?_) h
 cases h
 simp only [seval,FMB,Tryd.results69]
 refine .skip (Mir.toK (.seqK (.bind fun y3 hy7=>.region fun e h=>?_)))
 simp only [seval,EMB,ag_24,sz_24,fld_133_2,sz_130,ag_130]
 refine SpecS.by (ip_point_spec hy7) (by simp only [seval,FMB]) ?_
 simp only [seval,EMB]
 refine mU e (.seqK (.bind fun y4 hy8=>.region fun e h=>?_)) h
 simp only [seval,EMB,fld_133_1,sz_24,ag_24,fld_133_2,sz_130,ag_130]
 refine SpecS.by (ip_point_spec hy8) (by simp only [seval,FMB]) ?_
 simp only [seval,EMB]
 refine mU e (.sR fun e h=>?_) h
 simp only [seval,EMB]
 refine mU e (.seqK (.sR fun e h=>?_)) h
 simp only [seval,EMB,fld_133_0,sz_3,ag_3]
 refine mU e (Mir.joinO (fun v1 : Int=>([U,U,U,U,U,U,U,U,U,U,U,.d (.int .i64 v1)] ++ us 37)) (fun v1=>⟨[[.d (.int .i64 a0.X),.d (.int .i64 a0.Y),.d (.int .i64 a0.Z)],[.d (.int .i64 a1.Kind),.d (.int .i64 a1.To.X),.d (.int .i64 a1.To.Y),.d (.int .i64 a1.To.Z),.d (.int .i64 a1.Center.X),.d (.int .i64 a1.Center.Y),.d (.int .i64 a1.Rate)]],[]⟩) (fun _=>rfl) ?_ ?_) h
 refine .cond rfl (fun hb10=>?_) (fun hb10=>?_)
 refine .region fun e h=>?_
 simp only [seval,EMB]
 cases h
 simp only [seval,FMB,Tryd.results69]
 refine .skip fun e h=>?_
 cases h
 simp only [seval,FMB,Tryd.results69]
 intro v1
 refine Mir.toK (.seqK (.sR fun e h=>?_))
 simp only [seval,EMB]
 refine mU e (Mir.joinO (fun v2 : Int=>([U,U,U,U,U,U,U,U,U,U,U,.d (.int .i64 v2)] ++ us 37)) (fun v2=>⟨[[.d (.int .i64 a0.X),.d (.int .i64 a0.Y),.d (.int .i64 a0.Z)],[.d (.int .i64 a1.Kind),.d (.int .i64 a1.To.X),.d (.int .i64 a1.To.Y),.d (.int .i64 a1.To.Z),.d (.int .i64 a1.Center.X),.d (.int .i64 a1.Center.Y),.d (.int .i64 a1.Rate)]],[]⟩) (fun _=>rfl) ?_ ?_) h
 refine .cond rfl (fun hb12=>?_) (fun hb12=>?_)
 refine .region fun e h=>?_
 simp only [seval,EMB]
 cases h
 simp only [seval,FMB,Tryd.results69]
 refine .skip fun e h=>?_
 cases h
 simp only [seval,FMB,Tryd.results69]
 intro v2
 refine Mir.toK (.sR fun e h=>?_)
 simp only [seval,EMB]
 refine mU e (.ret fun e h=>?_) h
 cases h
 simp only [seval,FMB,Tryd.results69]
def ip_Chords (a0 : Int) : Option Int := if (decide (a0 ≤ 0)) = true then some 0 else bindO (loopX (fun (v1 : Int × Int)=>if (decide (v1.1 < v1.2)) = true then if (decide ((IntKind.i64.wrap ((IntKind.i64.wrap (Int.tdiv (IntKind.i64.wrap (v1.1 + v1.2)) 2)) * (IntKind.i64.wrap (Int.tdiv (IntKind.i64.wrap (v1.1 + v1.2)) 2)))) ≥ (IntKind.i64.wrap ((IntKind.i64.wrap (Int.tdiv (IntKind.i64.wrap (a0 - 1)) 10)) + 1)))) = true then some (.go (v1.1,IntKind.i64.wrap (Int.tdiv (IntKind.i64.wrap (v1.1 + v1.2)) 2))) else some (.go (IntKind.i64.wrap ((IntKind.i64.wrap (Int.tdiv (IntKind.i64.wrap (v1.1 + v1.2)) 2)) + 1),v1.2)) else some (.ret v1.1)) fuel (1,1073741824)) fun (v2 : Int)=>some v2
theorem ip_Chords_spec {a0 : Int} {y : Int} (h : ip_Chords a0 = some y) : Spec gP 71 [.d (.int .i64 a0)] (.d (.int .i64 y)) := by
 refine spec_mir Tryd.func71 rfl (by kernel_rfl) (by kernel_rfl) (fun y : Int=>.d (.int .i64 y)) ?_ h
 unfold ip_Chords
 simp only [List.replicate,List.length,nS,nA,Tryd.ntmps71,SV]
 refine .sR fun e h=>?_
 simp only [seval,EMB]
 refine mU e (.seqK (.sR fun e h=>?_)) h
 simp only [seval,EMB]
 refine mU e (.cond rfl (fun hb2=>?_) (fun hb2=>?_)) h
 refine .sR fun e h=>?_
 simp only [seval,EMB]
 refine mU e (.ret fun e h=>?_) h
 cases h
 simp only [seval,FMB,Tryd.results71]
 refine .skip (Mir.toK (.sR fun e h=>?_))
 simp only [seval,EMB]
 refine mU e (.sR fun e h=>?_) h
 simp only [seval,EMB]
 refine mU e (.seqK (Mir.joinO (fun v2 : Int=>([U,U,U,U,.d (.int .i64 v2)] ++ us 24)) (fun v2=>⟨[],[]⟩) (fun _=>rfl) ?_ ?_)) h
 refine .block (Mir.loop (fun v1 : Int × Int=>([U,U,U,.d (.int .i64 (IntKind.i64.wrap ((IntKind.i64.wrap (Int.tdiv (IntKind.i64.wrap (a0 - 1)) 10)) + 1))),.d (.int .i64 v1.1),.d (.int .i64 v1.2)] ++ us 23)) (fun v1=>⟨[],[]⟩) (fun _=>rfl) (by simp only [seval,FMB]) (by simp only [seval,FMB]) fun v1=>.seqK (.sR fun e h=>?_))
 simp only [seval,EMB]
 refine mU e (.cond rfl (fun h1=>?_) (fun h1=>?_)) h
 refine .skip (Mir.toK (.block (.sR fun e h=>?_)))
 simp only [seval,EMB]
 refine mU e (.sR fun e h=>?_) h
 simp only [seval,EMB]
 refine mU e (.cond rfl (fun h2=>?_) (fun h2=>?_)) h
 refine .region fun e h=>?_
 simp only [seval,EMB]
 cases h
 simp only [seval,FMB,Tryd.results71]
 refine .region fun e h=>?_
 simp only [seval,EMB]
 cases h
 simp only [seval,FMB,Tryd.results71]
 refine .exit fun e h=>?_
 cases h
 simp only [seval,FMB,Tryd.results71]
 intro v2
 refine Mir.toK (.sR fun e h=>?_)
 simp only [seval,EMB]
 refine mU e (.ret fun e h=>?_) h
 cases h
 simp only [seval,FMB,Tryd.results71]
def ip_turned (a0 : Int) (a1 : Int) (a2 : Int) : Option (Int × Int) := bindO (loopX (fun (v1 : Int × Int × Int)=>if (decide (v1.2.2 < (andI .i64 a2 3))) = true then some (.go (IntKind.i64.wrap (0 - v1.2.1),v1.1,IntKind.i64.wrap (v1.2.2 + 1))) else some (.ret (v1.1,v1.2.1))) fuel (a0,a1,0)) fun (v2 : Int × Int)=>some (v2.1,v2.2)
theorem ip_turned_spec {a0 : Int} {a1 : Int} {a2 : Int} {y : Int × Int} (h : ip_turned a0 a1 a2 = some y) : Spec gP 72 [.d (.int .i64 a0),.d (.int .i64 a1),.d (.int .i64 a2)] (.tuple [.d (.int .i64 y.1),.d (.int .i64 y.2)]) := by
 refine spec_mir Tryd.func72 rfl (by kernel_rfl) (by kernel_rfl) (fun y : Int × Int=>.tuple [.d (.int .i64 y.1),.d (.int .i64 y.2)]) ?_ h
 unfold ip_turned
 simp only [List.replicate,List.length,nS,nA,Tryd.ntmps72,SV]
 refine .sR fun e h=>?_
 simp only [seval,EMB]
 refine mU e (.seqK (.sR fun e h=>?_)) h
 simp only [seval,EMB]
 refine mU e (Mir.joinO (fun v2 : Int × Int=>([.d (.int .i64 v2.1),.d (.int .i64 v2.2)] ++ us 16)) (fun v2=>⟨[],[]⟩) (fun _=>rfl) ?_ ?_) h
 refine .block (Mir.loop (fun v1 : Int × Int × Int=>([.d (.int .i64 v1.1),.d (.int .i64 v1.2.1),U,U,U,U,U,U,U,.d (.int .i64 (andI .i64 a2 3)),.d (.int .i64 v1.2.2)] ++ us 7)) (fun v1=>⟨[],[]⟩) (fun _=>rfl) (by simp only [seval,FMB]) (by simp only [seval,FMB]) fun v1=>.sR fun e h=>?_)
 simp only [seval,EMB]
 refine mU e (.seqK (.cond rfl (fun hb12=>?_) (fun hb12=>?_))) h
 refine .skip (Mir.toK (.seqK (.block (.region fun e h=>?_))))
 simp only [seval,EMB]
 refine mU e (.region fun e h=>?_) h
 simp only [seval,EMB]
 cases h
 simp only [seval,FMB,Tryd.results72]
 refine .exit fun e h=>?_
 cases h
 simp only [seval,FMB,Tryd.results72]
 intro v2
 refine Mir.toK (.sR fun e h=>?_)
 simp only [seval,EMB]
 refine mU e (.ret fun e h=>?_) h
 cases h
 simp only [seval,FMB,Tryd.results72]
def ip_floor (a0 : Int) (a1 : Int) : Option Int := guardO (!(a1 == 0)) ( guardO (!(a1 == 0)) ( bindO (if (decide ((Int.tmod a0 a1) < 0)) = true then some (IntKind.i64.wrap ((IntKind.i64.wrap (Int.tdiv a0 a1)) - 1)) else some (IntKind.i64.wrap (Int.tdiv a0 a1))) fun (v1 : Int)=>some v1))
theorem ip_floor_spec {a0 : Int} {a1 : Int} {y : Int} (h : ip_floor a0 a1 = some y) : Spec gP 73 [.d (.int .i64 a0),.d (.int .i64 a1)] (.d (.int .i64 y)) := by
 refine spec_mir Tryd.func73 rfl (by kernel_rfl) (by kernel_rfl) (fun y : Int=>.d (.int .i64 y)) ?_ h
 unfold ip_floor
 simp only [List.replicate,List.length,nS,nA,Tryd.ntmps73,SV]
 refine .sR fun e h=>?_
 simp only [seval,EMB]
 refine mU e (.seqK (.guard fun q1=>?_)) h
 replace q1 := ne_of q1
 refine .region fun e h=>?_
 simp only [seval,EMB,q1]
 refine mU e (.seqK (.seqK (.guard fun q2=>?_))) h
 replace q2 := ne_of q2
 refine .region fun e h=>?_
 simp only [seval,EMB,q2]
 refine mU e (Mir.joinO (fun v1 : Int=>([U,U,U,U,U,.d (.int .i64 v1)] ++ us 10)) (fun v1=>⟨[],[]⟩) (fun _=>rfl) ?_ ?_) h
 refine .cond rfl (fun hb4=>?_) (fun hb4=>?_)
 refine .region fun e h=>?_
 simp only [seval,EMB]
 cases h
 simp only [seval,FMB,Tryd.results73]
 refine .skip fun e h=>?_
 cases h
 simp only [seval,FMB,Tryd.results73]
 intro v1
 refine Mir.toK (.sR fun e h=>?_)
 simp only [seval,EMB]
 refine mU e (.ret fun e h=>?_) h
 cases h
 simp only [seval,FMB,Tryd.results73]
def ip_Arc (a0 : ApiPos) (a1 : ApiMove) : Option ((List ApiPos) × Int) := bindO (ip_Quarters a0 (ApiMove.mk a1.Kind a1.To a1.Center a1.Rate)) fun (y1 : Int × Int)=>if (y1.2 != 0) = true then some ([],y1.2) else bindO (ip_point a0 a1.Center) fun (y2 : Int × Int)=>bindO (ip_Chords (IntKind.i64.wrap y2.2)) fun (y3 : Int)=>if (decide ((IntKind.i64.wrap (y3 * y1.1)) > 20000)) = true then some ([],3) else bindO (loopX (fun (v1 : (List ApiPos) × Int)=>if (decide (v1.2 < y1.1)) = true then bindO (loopX (fun (v2 : (List ApiPos) × Int)=>if (decide (v2.2 ≤ y3)) = true then guardO (!((IntKind.i64.wrap ((IntKind.i64.wrap (y3 * y3)) + (IntKind.i64.wrap (v2.2 * v2.2)))) == 0)) ( guardO (!((IntKind.i64.wrap ((IntKind.i64.wrap (y3 * y3)) + (IntKind.i64.wrap (v2.2 * v2.2)))) == 0)) ( bindO (if (a1.Kind == 3) = true then bindO (ip_turned (IntKind.i64.wrap (Int.tdiv (IntKind.i64.wrap ((IntKind.i64.wrap y2.2) * (IntKind.i64.wrap ((IntKind.i64.wrap (y3 * y3)) - (IntKind.i64.wrap (v2.2 * v2.2)))))) (IntKind.i64.wrap ((IntKind.i64.wrap (y3 * y3)) + (IntKind.i64.wrap (v2.2 * v2.2)))))) (IntKind.i64.wrap (0 - (IntKind.i64.wrap (Int.tdiv (IntKind.i64.wrap ((IntKind.i64.wrap ((IntKind.i64.wrap (2 * (IntKind.i64.wrap y2.2))) * v2.2)) * y3)) (IntKind.i64.wrap ((IntKind.i64.wrap (y3 * y3)) + (IntKind.i64.wrap (v2.2 * v2.2)))))))) (IntKind.i64.wrap ((IntKind.i64.wrap (y2.1 - v1.2)) + 4))) fun (y4 : Int × Int)=>some (y4.1,y4.2) else bindO (ip_turned (IntKind.i64.wrap (Int.tdiv (IntKind.i64.wrap ((IntKind.i64.wrap y2.2) * (IntKind.i64.wrap ((IntKind.i64.wrap (y3 * y3)) - (IntKind.i64.wrap (v2.2 * v2.2)))))) (IntKind.i64.wrap ((IntKind.i64.wrap (y3 * y3)) + (IntKind.i64.wrap (v2.2 * v2.2)))))) (IntKind.i64.wrap (Int.tdiv (IntKind.i64.wrap ((IntKind.i64.wrap ((IntKind.i64.wrap (2 * (IntKind.i64.wrap y2.2))) * v2.2)) * y3)) (IntKind.i64.wrap ((IntKind.i64.wrap (y3 * y3)) + (IntKind.i64.wrap (v2.2 * v2.2)))))) (IntKind.i64.wrap (y2.1 + v1.2))) fun (y5 : Int × Int)=>some (y5.1,y5.2)) fun (v3 : Int × Int)=>bindO (ip_floor (IntKind.i64.wrap ((IntKind.i64.wrap (a1.To.Z - a0.Z)) * (IntKind.i64.wrap ((v2.1.length : Int) + 1)))) (IntKind.i64.wrap (y3 * y1.1))) fun (y6 : Int)=>guardO (okLen (v2.1.length + 1)) ( some (.go (v2.1 ++ [ApiPos.mk (IntKind.i64.wrap (a1.Center.X + v3.1)) (IntKind.i64.wrap (a1.Center.Y + v3.2)) (IntKind.i64.wrap (a0.Z + y6))],IntKind.i64.wrap (v2.2 + 1)))))) else some (.ret v2.1)) fuel (v1.1,1)) fun (v4 : (List ApiPos))=>some (.go (v4,IntKind.i64.wrap (v1.2 + 1))) else some (.ret v1.1)) fuel ([],0)) fun (v5 : (List ApiPos))=>some (v5,0)
theorem ip_Arc_spec {a0 : ApiPos} {a1 : ApiMove} {y : (List ApiPos) × Int} (h : ip_Arc a0 a1 = some y) : Spec gP 62 [.agg [.d (.int .i64 a0.X),.d (.int .i64 a0.Y),.d (.int .i64 a0.Z)],.agg [.d (.int .i64 a1.Kind),.d (.int .i64 a1.To.X),.d (.int .i64 a1.To.Y),.d (.int .i64 a1.To.Z),.d (.int .i64 a1.Center.X),.d (.int .i64 a1.Center.Y),.d (.int .i64 a1.Rate)]] (.tuple [.d (.list (List.map encApiPos y.1)),.d (.int .i64 y.2)]) := by
 refine spec_mir Tryd.func62 rfl (by kernel_rfl) (by kernel_rfl) (fun y : (List ApiPos) × Int=>.tuple [.d (.list (List.map encApiPos y.1)),.d (.int .i64 y.2)]) ?_ h
 unfold ip_Arc
 simp only [List.replicate,List.length,nS,nA,Tryd.ntmps62,SV]
 refine .sR fun e h=>?_
 simp only [seval,EMB]
 refine mU e (.seqK (.bind fun y1 hy1=>.region fun e h=>?_)) h
 simp only [seval,EMB,ag_24,sz_24,ag_133,sz_133]
 refine SpecS.by (ip_Quarters_spec hy1) (by simp only [seval,FMB]) ?_
 simp only [seval,EMB]
 refine mU e (.seqK (.sR fun e h=>?_)) h
 simp only [seval,EMB]
 refine mU e (.cond rfl (fun hb3=>?_) (fun hb3=>?_)) h
 refine .sR fun e h=>?_
 simp only [seval,EMB]
 refine mU e (.ret fun e h=>?_) h
 cases h
 simp only [seval,FMB,Tryd.results62]
 refine .skip (Mir.toK (.seqK (.bind fun y2 hy4=>.region fun e h=>?_)))
 simp only [seval,EMB,ag_24,sz_24,fld_133_2,sz_130,ag_130]
 refine SpecS.by (ip_point_spec hy4) (by simp only [seval,FMB]) ?_
 simp only [seval,EMB]
 refine mU e (.sR fun e h=>?_) h
 simp only [seval,EMB,und_145,und_2]
 refine mU e (.seqK (.bind fun y3 hy5=>.region fun e h=>?_)) h
 simp only [seval,EMB]
 refine SpecS.by (ip_Chords_spec hy5) (by simp only [seval,FMB]) ?_
 simp only [seval,EMB]
 refine mU e (.sR fun e h=>?_) h
 simp only [seval,EMB]
 refine mU e (.seqK (.sR fun e h=>?_)) h
 simp only [seval,EMB]
 refine mU e (.cond rfl (fun hb7=>?_) (fun hb7=>?_)) h
 refine .sR fun e h=>?_
 simp only [seval,EMB]
 refine mU e (.ret fun e h=>?_) h
 cases h
 simp only [seval,FMB,Tryd.results62]
 refine .skip (Mir.toK (.sR fun e h=>?_))
 simp only [seval,EMB]
 refine mU e (.seqK (.sR fun e h=>?_)) h
 simp only [seval,EMB]
 refine mU e (.gh [.slot 13 24] rfl (Mir.joinO (fun v5 : (List ApiPos)=>([U,U,U,U,U,U,U,U,U,U,U,U,U,.own 0 (List.map encApiPos v5)] ++ us 125)) (fun v5=>⟨[[.d (.int .i64 a0.X),.d (.int .i64 a0.Y),.d (.int .i64 a0.Z)],[.d (.int .i64 a1.Kind),.d (.int .i64 a1.To.X),.d (.int .i64 a1.To.Y),.d (.int .i64 a1.To.Z),.d (.int .i64 a1.Center.X),.d (.int .i64 a1.Center.Y),.d (.int .i64 a1.Rate)]],[(24,v5.length)]⟩) (fun _=>rfl) ?_ ?_)) h
 refine .block (Mir.loop (fun v1 : (List ApiPos) × Int=>([U,U,.ptr 0 0,.ptr 1 0,U,U,U,U,.d (.int .i64 y2.1),U,.d (.int .i64 (IntKind.i64.wrap y2.2)),.d (.int .i64 y3),.d (.int .i64 (IntKind.i64.wrap (y3 * y1.1))),.own 0 (List.map encApiPos v1.1),U,U,U,U,U,U,U,U,U,U,U,U,U,U,U,U,U,U,U,U,U,U,U,U,U,U,U,U,U,U,.d (.int .i64 y1.1),.d (.int .i64 v1.2)] ++ us 93)) (fun v1=>⟨[[.d (.int .i64 a0.X),.d (.int .i64 a0.Y),.d (.int .i64 a0.Z)],[.d (.int .i64 a1.Kind),.d (.int .i64 a1.To.X),.d (.int .i64 a1.To.Y),.d (.int .i64 a1.To.Z),.d (.int .i64 a1.Center.X),.d (.int .i64 a1.Center.Y),.d (.int .i64 a1.Rate)]],[(24,v1.1.length)]⟩) (fun _=>rfl) (by simp only [seval,FMB]) (by simp only [seval,FMB]) fun v1=>.sR fun e h=>?_)
 simp only [seval,EMB]
 refine mU e (.seqK (.cond rfl (fun h1=>?_) (fun h1=>?_))) h
 refine .skip (Mir.toK (.seqK (Mir.joinO (fun v4 : (List ApiPos)=>([U,U,.ptr 0 0,.ptr 1 0,U,U,U,U,.d (.int .i64 y2.1),U,.d (.int .i64 (IntKind.i64.wrap y2.2)),.d (.int .i64 y3),.d (.int .i64 (IntKind.i64.wrap (y3 * y1.1))),.own 0 (List.map encApiPos v4),U,U,U,U,U,U,U,U,U,U,U,U,U,U,U,U,U,U,U,U,U,U,U,U,U,U,U,U,U,U,.d (.int .i64 y1.1),.d (.int .i64 v1.2)] ++ us 93)) (fun v4=>⟨[[.d (.int .i64 a0.X),.d (.int .i64 a0.Y),.d (.int .i64 a0.Z)],[.d (.int .i64 a1.Kind),.d (.int .i64 a1.To.X),.d (.int .i64 a1.To.Y),.d (.int .i64 a1.To.Z),.d (.int .i64 a1.Center.X),.d (.int .i64 a1.Center.Y),.d (.int .i64 a1.Rate)]],[(24,v4.length)]⟩) (fun _=>rfl) ?_ ?_)))
 refine .block (.sR fun e h=>?_)
 simp only [seval,EMB]
 refine mU e (.sR fun e h=>?_) h
 simp only [seval,EMB]
 refine mU e (.block (Mir.loop (fun v2 : (List ApiPos) × Int=>([U,U,.ptr 0 0,.ptr 1 0,U,U,U,U,.d (.int .i64 y2.1),U,.d (.int .i64 (IntKind.i64.wrap y2.2)),.d (.int .i64 y3),.d (.int .i64 (IntKind.i64.wrap (y3 * y1.1))),.own 0 (List.map encApiPos v2.1),.d (.int .i64 v1.2),.d (.int .i64 v2.2),U,U,U,U,U,U,U,U,U,U,U,U,U,U,U,U,U,U,U,U,U,U,U,U,U,U,U,U,.d (.int .i64 y1.1),.d (.int .i64 v1.2)] ++ us 93)) (fun v2=>⟨[[.d (.int .i64 a0.X),.d (.int .i64 a0.Y),.d (.int .i64 a0.Z)],[.d (.int .i64 a1.Kind),.d (.int .i64 a1.To.X),.d (.int .i64 a1.To.Y),.d (.int .i64 a1.To.Z),.d (.int .i64 a1.Center.X),.d (.int .i64 a1.Center.Y),.d (.int .i64 a1.Rate)]],[(24,v2.1.length)]⟩) (fun _=>rfl) (by simp only [seval,FMB]) (by simp only [seval,FMB]) fun v2=>.seqK (.sR fun e h=>?_))) h
 simp only [seval,EMB]
 refine mU e (.cond rfl (fun h2=>?_) (fun h2=>?_)) h
 refine .skip (Mir.toK (.seqK (.block (.seqK (.guard fun q1=>?_)))))
 replace q1 := ne_of q1
 refine .guard fun q2=>?_
 replace q2 := ne_of q2
 refine .regionD [] (by kernel_rfl) fun e h=>?_
 simp only [seval,EMB,SB,q1,q2]
 refine mU e (.seqK (.sR fun e h=>?_)) h
 simp only [seval,EMB,fld_133_0,sz_3,ag_3]
 refine mU e (Mir.joinO (fun v3 : Int × Int=>([U,U,.ptr 0 0,.ptr 1 0,U,U,U,U,.d (.int .i64 y2.1),U,.d (.int .i64 (IntKind.i64.wrap y2.2)),.d (.int .i64 y3),.d (.int .i64 (IntKind.i64.wrap (y3 * y1.1))),.own 0 (List.map encApiPos v2.1),.d (.int .i64 v1.2),.d (.int .i64 v2.2),.d (.int .i64 v3.1),.d (.int .i64 v3.2),U,U,U,U,U,U,U,U,U,U,U,U,U,U,U,U,U,U,U,U,U,U,U,U,U,U,.d (.int .i64 y1.1),.d (.int .i64 v1.2)] ++ us 93)) (fun v3=>⟨[[.d (.int .i64 a0.X),.d (.int .i64 a0.Y),.d (.int .i64 a0.Z)],[.d (.int .i64 a1.Kind),.d (.int .i64 a1.To.X),.d (.int .i64 a1.To.Y),.d (.int .i64 a1.To.Z),.d (.int .i64 a1.Center.X),.d (.int .i64 a1.Center.Y),.d (.int .i64 a1.Rate)]],[(24,v2.1.length)]⟩) (fun _=>rfl) ?_ ?_) h
 refine .cond rfl (fun h3=>?_) (fun h3=>?_)
 refine .bind fun y4 h4=>.region fun e h=>?_
 simp only [seval,EMB]
 refine SpecS.by (ip_turned_spec h4) (by simp only [seval,FMB]) ?_
 simp only [seval,EMB]
 cases h
 simp only [seval,FMB,Tryd.results62]
 refine .bind fun y5 h5=>.region fun e h=>?_
 simp only [seval,EMB]
 refine SpecS.by (ip_turned_spec h5) (by simp only [seval,FMB]) ?_
 simp only [seval,EMB]
 cases h
 simp only [seval,FMB,Tryd.results62]
 intro v3
 refine Mir.toK (.sR fun e h=>?_)
 simp only [seval,EMB,und_97]
 refine mU e (.bind fun y6 h6=>.guard fun q3=>.regionD [] (by kernel_rfl) fun e h=>?_) h
 simp only [seval,EMB,SB,fld_133_2,sz_130,fld_130_0,sz_2,ag_2,fld_130_1,fld_24_2,fld_133_1,sz_24]
 refine Spec.by (ip_floor_spec h6) (by simp only [seval,FMB]) ?_
 simp only [seval,EMB,SB,zero_24,pl_24,und_97,sz_24,(oL 3),app_97,al_ApiPos,q3]
 refine mU e (.region fun e h=>?_) h
 simp only [seval,EMB]
 cases h
 simp only [seval,FMB,Tryd.results62]
 refine .exit fun e h=>?_
 cases h
 simp only [seval,FMB,Tryd.results62]
 intro v4
 refine Mir.toK (.region fun e h=>?_)
 simp only [seval,EMB]
 cases h
 simp only [seval,FMB,Tryd.results62]
 refine .exit fun e h=>?_
 cases h
 simp only [seval,FMB,Tryd.results62]
 intro v5
 refine Mir.toK (.sR fun e h=>?_)
 simp only [seval,EMB]
 refine mU e (.ret fun e h=>?_) h
 cases h
 simp only [seval,FMB,Tryd.results62]
def inp_arc (a0 : ModalState) (a1 : ApiBlock) (a2 : ApiPos) (a3 : ApiPos) : Option ((List InterpreterReached) × Int) := bindO (inp_value a1 73) fun (y1 : Int)=>bindO (inp_value a1 74) fun (y2 : Int)=>bindO (if (a0.Motion == 3000) = true then some 4 else some 3) fun (v1 : Int)=>bindO (ip_Arc a2 (ApiMove.mk v1 a3 (ApiGrid2.mk (IntKind.i64.wrap (a2.X + y1)) (IntKind.i64.wrap (a2.Y + y2))) a0.Feed)) fun (y3 : (List ApiPos) × Int)=>bindO (guardO (okIdx y3.1) ( rangeX (fun (i1 : Nat) (e1 : ApiPos) (v2 : (List InterpreterReached))=>guardO (okLen (v2.length + 1)) ( some (.go (v2 ++ [InterpreterReached.mk e1 a0.Feed])))) (fun (v2 : (List InterpreterReached))=>some v2) y3.1 0 [])) fun (v3 : (List InterpreterReached))=>some (v3,y3.2)
theorem inp_arc_spec {a0 : ModalState} {a1 : ApiBlock} {a2 : ApiPos} {a3 : ApiPos} {y : (List InterpreterReached) × Int} (h : inp_arc a0 a1 a2 a3 = some y) : Spec gP 53 [.agg [.d (.int .i64 a0.Motion),.d (.int .i64 a0.Distance),.d (.int .i64 a0.Work),.d (.int .i64 a0.Length),.d (.int .i64 a0.Return),.d (.int .i64 a0.Feed),.d (.int .i64 a0.Tool),.d (.int .i64 a0.Offset)],.agg [.d (.bool a1.Skip),.d (.list (List.map encApiWord a1.Words)),.d (.str a1.Comment)],.agg [.d (.int .i64 a2.X),.d (.int .i64 a2.Y),.d (.int .i64 a2.Z)],.agg [.d (.int .i64 a3.X),.d (.int .i64 a3.Y),.d (.int .i64 a3.Z)]] (.tuple [.d (.list (List.map encInterpreterReached y.1)),.d (.int .i64 y.2)]) := by
 refine spec_mir Tryd.func53 rfl (by kernel_rfl) (by kernel_rfl) (fun y : (List InterpreterReached) × Int=>.tuple [.d (.list (List.map encInterpreterReached y.1)),.d (.int .i64 y.2)]) ?_ h
 unfold inp_arc
 simp only [List.replicate,List.length,nS,nA,Tryd.ntmps53,SV]
 refine .sR fun e h=>?_
 simp only [seval,EMB]
 refine mU e (.seqK (.bind fun y1 hy1=>.bind fun y2 hy2=>.regionD [] (by kernel_rfl) fun e h=>?_)) h
 simp only [seval,EMB,SB,ag_24,sz_24,fld_24_0,sz_2,ag_2,ag_41,sz_41]
 refine Spec.by (inp_value_spec hy1) (by simp only [seval,FMB]) ?_
 simp only [seval,EMB,SB,fld_24_1,sz_2,ag_2,ag_41,sz_41]
 refine Spec.by (inp_value_spec hy2) (by simp only [seval,FMB]) ?_
 simp only [seval,EMB,SB,zero_130,pl_130,fld_34_5,sz_2,ag_2,zero_133,pl_133,sz_133]
 refine mU e (.seqK (.sR fun e h=>?_)) h
 simp only [seval,EMB,fld_34_0,sz_2,ag_2]
 refine mU e (Mir.joinO (fun v1 : Int=>([U,U,U,U,.ptr 0 0,U,.ptr 2 0,U,U,U,.ptr 4 0] ++ us 46)) (fun v1=>⟨[[.d (.int .i64 a0.Motion),.d (.int .i64 a0.Distance),.d (.int .i64 a0.Work),.d (.int .i64 a0.Length),.d (.int .i64 a0.Return),.d (.int .i64 a0.Feed),.d (.int .i64 a0.Tool),.d (.int .i64 a0.Offset)],[.d (.bool a1.Skip),.d (.list (List.map encApiWord a1.Words)),.d (.str a1.Comment)],[.d (.int .i64 a2.X),.d (.int .i64 a2.Y),.d (.int .i64 a2.Z)],[.d (.int .i64 a3.X),.d (.int .i64 a3.Y),.d (.int .i64 a3.Z)],[.d (.int .i64 v1),.d (.int .i64 a3.X),.d (.int .i64 a3.Y),.d (.int .i64 a3.Z),.d (.int .i64 (IntKind.i64.wrap (a2.X + y1))),.d (.int .i64 (IntKind.i64.wrap (a2.Y + y2))),.d (.int .i64 a0.Feed)]],[]⟩) (fun _=>rfl) ?_ ?_) h
 refine .cond rfl (fun hb4=>?_) (fun hb4=>?_)
 refine .region fun e h=>?_
 simp only [seval,EMB,fld_133_0,sz_3]
 cases h
 simp only [seval,FMB,Tryd.results53]
 refine .skip fun e h=>?_
 cases h
 simp only [seval,FMB,Tryd.results53]
 intro v1
 refine Mir.toK (.seqK (.bind fun y3 hy5=>.region fun e h=>?_))
 simp only [seval,EMB,ag_24,sz_24,ag_133,sz_133]
 refine SpecS.by (ip_Arc_spec hy5) (by simp only [seval,FMB]) ?_
 simp only [seval,EMB]
 refine mU e (.sR fun e h=>?_) h
 simp only [seval,EMB]
 refine mU e (.seqK (.sR fun e h=>?_)) h
 simp only [seval,EMB,und_97]
 refine mU e (.gh [.slot 13 93] rfl (Mir.joinO (fun v3 : (List InterpreterReached)=>([U,U,U,U,U,U,U,U,U,U,U,U,.d (.int .i64 y3.2),.own 0 (List.map encInterpreterReached v3)] ++ us 43)) (fun v3=>⟨[[.d (.int .i64 a0.Motion),.d (.int .i64 a0.Distance),.d (.int .i64 a0.Work),.d (.int .i64 a0.Length),.d (.int .i64 a0.Return),.d (.int .i64 a0.Feed),.d (.int .i64 a0.Tool),.d (.int .i64 a0.Offset)],[.d (.bool a1.Skip),.d (.list (List.map encApiWord a1.Words)),.d (.str a1.Comment)],[.d (.int .i64 a2.X),.d (.int .i64 a2.Y),.d (.int .i64 a2.Z)],[.d (.int .i64 a3.X),.d (.int .i64 a3.Y),.d (.int .i64 a3.Z)],[.d (.int .i64 v1),.d (.int .i64 a3.X),.d (.int .i64 a3.Y),.d (.int .i64 a3.Z),.d (.int .i64 (IntKind.i64.wrap (a2.X + y1))),.d (.int .i64 (IntKind.i64.wrap (a2.Y + y2))),.d (.int .i64 a0.Feed)]],[(93,v3.length)]⟩) (fun _=>rfl) ?_ ?_)) h
 refine .block (.guard fun qg70=>Mir.range (fun (i1 : Nat) (v2 : (List InterpreterReached))=>([U,U,U,U,.ptr 0 0,U,U,U,U,U,U,U,.d (.int .i64 y3.2),.own 0 (List.map encInterpreterReached v2),U,U,U,U,U,U,U,U,U,U,U,U,U,U,U,U,U,U,U,U,U,U,U,U,U,U,U,.d (.list (List.map encApiPos y3.1)),.d (.int .i64 (y3.1.length : Int)),.d (.int .i64 (i1 : Int))] ++ us 13)) (fun i1 v2=>⟨[[.d (.int .i64 a0.Motion),.d (.int .i64 a0.Distance),.d (.int .i64 a0.Work),.d (.int .i64 a0.Length),.d (.int .i64 a0.Return),.d (.int .i64 a0.Feed),.d (.int .i64 a0.Tool),.d (.int .i64 a0.Offset)],[.d (.bool a1.Skip),.d (.list (List.map encApiWord a1.Words)),.d (.str a1.Comment)],[.d (.int .i64 a2.X),.d (.int .i64 a2.Y),.d (.int .i64 a2.Z)],[.d (.int .i64 a3.X),.d (.int .i64 a3.Y),.d (.int .i64 a3.Z)],[.d (.int .i64 v1),.d (.int .i64 a3.X),.d (.int .i64 a3.Y),.d (.int .i64 a3.Z),.d (.int .i64 (IntKind.i64.wrap (a2.X + y1))),.d (.int .i64 (IntKind.i64.wrap (a2.Y + y2))),.d (.int .i64 a0.Feed)]],[(93,v2.length)]⟩) qg70 (fun _ _=>rfl) (by simp only [seval,FMB,zNI]) (by simp only [seval,FMB,zNI]) ?_ ?_)
 intro i1 e1 v2 qr68
 refine .sR fun e h=>?_
 simp only [seval,EMB,qr68]
 refine mU e (.seqK (.condT rfl (.skip (Mir.toK (.seqK (.block (.sR fun e h=>?_))))))) h
 simp only [seval,EMB,und_97,sz_24,qr68,Int.toNat_natCast,ag_24,zero_24]
 refine mU e (.guard fun q72=>.region fun e h=>?_) h
 simp only [seval,EMB,ag_24,sz_24,fld_34_5,sz_2,ag_2,zero_93,pl_93,und_89,sz_93,(oL 4),app_89,al_InterpreterReached,q72]
 refine mU e (.region fun e h=>?_) h
 simp only [seval,EMB]
 cases h
 simp only [seval,FMB,Tryd.results53,qr68]
 intro v2 qd69
 refine .sR fun e h=>?_
 simp only [seval,EMB,qd69]
 refine mU e (.seqK (.condF rfl (.exit fun e h=>?_))) h
 cases h
 simp only [seval,FMB,Tryd.results53]
 intro v3
 refine Mir.toK (.sR fun e h=>?_)
 simp only [seval,EMB]
 refine mU e (.ret fun e h=>?_) h
 cases h
 simp only [seval,FMB,Tryd.results53]
def inp_positions (a0 : ModalState) (a1 : CycleCycle) (a2 : ApiBlock) (a3 : ApiPos) : Option ((List InterpreterReached) × CycleCycle × Int) := bindO (inp_target a0 (ApiBlock.mk a2.Skip a2.Words a2.Comment) a3) fun (y1 : ApiPos)=>if (a0.Motion == 0) = true then some ([InterpreterReached.mk y1 0],CycleCycle.mk 0 0 0 0 0 0 false,0) else if (a0.Motion == 1000) = true then some ([InterpreterReached.mk y1 a0.Feed],CycleCycle.mk 0 0 0 0 0 0 false,0) else bindO (inp_cycles a0.Motion) fun (y2 : Bool)=>if y2 = true then bindO (inp_canned (ModalState.mk a0.Motion a0.Distance a0.Work a0.Length a0.Return a0.Feed a0.Tool a0.Offset) (CycleCycle.mk a1.Code a1.R a1.Z a1.Q a1.Rate a1.Initial a1.High) a2 a3 y1) fun (y3 : (List InterpreterReached) × CycleCycle × Int)=>some (y3.1,y3.2.1,y3.2.2) else bindO (inp_arc (ModalState.mk a0.Motion a0.Distance a0.Work a0.Length a0.Return a0.Feed a0.Tool a0.Offset) (ApiBlock.mk a2.Skip a2.Words a2.Comment) a3 y1) fun (y4 : (List InterpreterReached) × Int)=>some (y4.1,CycleCycle.mk 0 0 0 0 0 0 false,y4.2)
theorem inp_positions_spec {a0 : ModalState} {a1 : CycleCycle} {a2 : ApiBlock} {a3 : ApiPos} {y : (List InterpreterReached) × CycleCycle × Int} (h : inp_positions a0 a1 a2 a3 = some y) : Spec gP 36 [.agg [.d (.int .i64 a0.Motion),.d (.int .i64 a0.Distance),.d (.int .i64 a0.Work),.d (.int .i64 a0.Length),.d (.int .i64 a0.Return),.d (.int .i64 a0.Feed),.d (.int .i64 a0.Tool),.d (.int .i64 a0.Offset)],.agg [.d (.int .i64 a1.Code),.d (.int .i64 a1.R),.d (.int .i64 a1.Z),.d (.int .i64 a1.Q),.d (.int .i64 a1.Rate),.d (.int .i64 a1.Initial),.d (.bool a1.High)],.agg [.d (.bool a2.Skip),.d (.list (List.map encApiWord a2.Words)),.d (.str a2.Comment)],.agg [.d (.int .i64 a3.X),.d (.int .i64 a3.Y),.d (.int .i64 a3.Z)]] (.tuple [.d (.list (List.map encInterpreterReached y.1)),.agg [.d (.int .i64 y.2.1.Code),.d (.int .i64 y.2.1.R),.d (.int .i64 y.2.1.Z),.d (.int .i64 y.2.1.Q),.d (.int .i64 y.2.1.Rate),.d (.int .i64 y.2.1.Initial),.d (.bool y.2.1.High)],.d (.int .i64 y.2.2)]) := by
 refine spec_mir Tryd.func36 rfl (by kernel_rfl) (by kernel_rfl) (fun y : (List InterpreterReached) × CycleCycle × Int=>.tuple [.d (.list (List.map encInterpreterReached y.1)),.agg [.d (.int .i64 y.2.1.Code),.d (.int .i64 y.2.1.R),.d (.int .i64 y.2.1.Z),.d (.int .i64 y.2.1.Q),.d (.int .i64 y.2.1.Rate),.d (.int .i64 y.2.1.Initial),.d (.bool y.2.1.High)],.d (.int .i64 y.2.2)]) ?_ h
 unfold inp_positions
 simp only [List.replicate,List.length,nS,nA,Tryd.ntmps36,SV]
 refine .sR fun e h=>?_
 simp only [seval,EMB,zero_64]
 refine mU e (.seqK (.bind fun y1 hy1=>.region fun e h=>?_)) h
 simp only [seval,EMB,ag_34,sz_34,ag_41,sz_41,ag_24,sz_24]
 refine SpecS.by (inp_target_spec hy1) (by simp only [seval,FMB]) ?_
 simp only [seval,EMB,zero_24,sz_24]
 refine mU e (.seqK (.block (.sR fun e h=>?_))) h
 simp only [seval,EMB,fld_34_0,sz_2,ag_2]
 refine mU e (.cond rfl (fun hb12=>?_) (fun hb12=>?_)) h
 refine .sR fun e h=>?_
 simp only [seval,EMB,ag_24,sz_24,zero_93,pl_93,und_89,sz_93,(oL 4),zero_64,pl_64,sz_64]
 refine mU e (.ret fun e h=>?_) h
 cases h
 simp only [seval,FMB,Tryd.results36,ag_64,sz_64]
 refine .sR fun e h=>?_
 simp only [seval,EMB,fld_34_0,sz_2,ag_2]
 refine mU e (.cond rfl (fun hb17=>?_) (fun hb17=>?_)) h
 refine .sR fun e h=>?_
 simp only [seval,EMB,ag_24,sz_24,fld_34_5,sz_2,ag_2,zero_93,pl_93,und_89,sz_93,(oL 4),zero_64,pl_64,sz_64]
 refine mU e (.ret fun e h=>?_) h
 cases h
 simp only [seval,FMB,Tryd.results36,ag_64,sz_64]
 refine .seqK (.bind fun y2 hy18=>.region fun e h=>?_)
 simp only [seval,EMB,fld_34_0,sz_2,ag_2]
 refine SpecS.by (inp_cycles_spec hy18) (by simp only [seval,FMB]) ?_
 simp only [seval,EMB]
 refine mU e (.cond rfl (fun hb21=>?_) (fun hb21=>?_)) h
 refine .seqK (.bind fun y3 hy22=>.region fun e h=>?_)
 simp only [seval,EMB,ag_34,sz_34,ag_64,sz_64,ag_41,sz_41,ag_24,sz_24]
 refine SpecS.by (inp_canned_spec hy22) (by simp only [seval,FMB]) ?_
 simp only [seval,EMB,sz_64]
 refine mU e (.ret fun e h=>?_) h
 cases h
 simp only [seval,FMB,Tryd.results36,ag_64,sz_64]
 refine .skip (Mir.toB (Mir.toK (.seqK (.bind fun y4 hy23=>.region fun e h=>?_))))
 simp only [seval,EMB,ag_34,sz_34,ag_41,sz_41,ag_24,sz_24]
 refine SpecS.by (inp_arc_spec hy23) (by simp only [seval,FMB]) ?_
 simp only [seval,EMB]
 refine mU e (.sR fun e h=>?_) h
 simp only [seval,EMB,zero_64,pl_64,sz_64]
 refine mU e (.ret fun e h=>?_) h
 cases h
 simp only [seval,FMB,Tryd.results36,ag_64,sz_64]
def tb_Machine (a0 : TableTable) (a1 : Int) (a2 : Int) (a3 : ApiPos) : Option (ApiPos × Int) := bindO (tb_offset a0 a1 a2) fun (y1 : ApiPos × Int)=>if (y1.2 != 0) = true then some (ApiPos.mk 0 0 0,y1.2) else bindO (tb_moved a3 y1.1 1) fun (y2 : ApiPos × Int)=>some (y2.1,y2.2)
theorem tb_Machine_spec {a0 : TableTable} {a1 : Int} {a2 : Int} {a3 : ApiPos} {y : ApiPos × Int} (h : tb_Machine a0 a1 a2 a3 = some y) : Spec gP 37 [.agg [.d (.int .i64 a0.Work.e0.X),.d (.int .i64 a0.Work.e0.Y),.d (.int .i64 a0.Work.e0.Z),.d (.int .i64 a0.Work.e1.X),.d (.int .i64 a0.Work.e1.Y),.d (.int .i64 a0.Work.e1.Z),.d (.int .i64 a0.Work.e2.X),.d (.int .i64 a0.Work.e2.Y),.d (.int .i64 a0.Work.e2.Z),.d (.int .i64 a0.Work.e3.X),.d (.int .i64 a0.Work.e3.Y),.d (.int .i64 a0.Work.e3.Z),.d (.int .i64 a0.Work.e4.X),.d (.int .i64 a0.Work.e4.Y),.d (.int .i64 a0.Work.e4.Z),.d (.int .i64 a0.Work.e5.X),.d (.int .i64 a0.Work.e5.Y),.d (.int .i64 a0.Work.e5.Z),.d (.list (List.map encTableLength a0.Lengths))],.d (.int .i64 a1),.d (.int .i64 a2),.agg [.d (.int .i64 a3.X),.d (.int .i64 a3.Y),.d (.int .i64 a3.Z)]] (.tuple [.agg [.d (.int .i64 y.1.X),.d (.int .i64 y.1.Y),.d (.int .i64 y.1.Z)],.d (.int .i64 y.2)]) := by
 refine spec_mir Tryd.func37 rfl (by kernel_rfl) (by kernel_rfl) (fun y : ApiPos × Int=>.tuple [.agg [.d (.int .i64 y.1.X),.d (.int .i64 y.1.Y),.d (.int .i64 y.1.Z)],.d (.int .i64 y.2)]) ?_ h
 unfold tb_Machine
 simp only [List.replicate,List.length,nS,nA,Tryd.ntmps37,SV]
 refine .sR fun e h=>?_
 simp only [seval,EMB,zero_24]
 refine mU e (.seqK (.bind fun y1 hy1=>.region fun e h=>?_)) h
 simp only [seval,EMB,ag_49,sz_49]
 refine SpecS.by (tb_offset_spec hy1) (by simp only [seval,FMB]) ?_
 simp only [seval,EMB,zero_24,sz_24]
 refine mU e (.seqK (.sR fun e h=>?_)) h
 simp only [seval,EMB]
 refine mU e (.cond rfl (fun hb3=>?_) (fun hb3=>?_)) h
 refine .sR fun e h=>?_
 simp only [seval,EMB,zero_24,pl_24,sz_24]
 refine mU e (.ret fun e h=>?_) h
 cases h
 simp only [seval,FMB,Tryd.results37,ag_24,sz_24]
 refine .skip (Mir.toK (.seqK (.bind fun y2 hy4=>.region fun e h=>?_)))
 simp only [seval,EMB,ag_24,sz_24]
 refine SpecS.by (tb_moved_spec hy4) (by simp only [seval,FMB]) ?_
 simp only [seval,EMB,sz_24]
 refine mU e (.ret fun e h=>?_) h
 cases h
 simp only [seval,FMB,Tryd.results37,ag_24,sz_24]
end Go.Proofs.YtnnelopkjdgbgaaDoor
