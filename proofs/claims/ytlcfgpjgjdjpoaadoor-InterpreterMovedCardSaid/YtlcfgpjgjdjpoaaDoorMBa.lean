/-
  Mirrors of functions, written by wip/mir.py.
-/
import Derived.Test.YtlcfgpjgjdjpoaaDoorGf
import Derived.Test.YtlcfgpjgjdjpoaaDoorTy
namespace Go.Proofs.YtlcfgpjgjdjpoaaDoor
open Go.RowKit
open Nat renaming reduceAdd → nA, reduceSub → nS, reduceMul → nM, reduceEqDiff → nE, reduceLeDiff → nL, reduceLT → nT, reduceBEq → nB
open Int renaming reduceLT → iT, reduceToNat → iN, reduceEq → iE
set_option linter.unusedVariables false
set_option linter.unusedSimpArgs false
set_option maxRecDepth 100000

structure ApiWord where
  Letter : Int
  Value : Int
  deriving DecidableEq
def encApiWord (x : ApiWord) : List D := [.int .u8 x.Letter, .int .i64 x.Value]
theorem al_ApiWord {l : List ApiWord} : (List.map encApiWord l).all (fun x => x.length == 2) = true := by simp [List.all_eq_true, encApiWord]
structure ApiBlock where
  Skip : Bool
  Words : (List ApiWord)
  Comment : (List UInt8)
  deriving DecidableEq
def encApiBlock (x : ApiBlock) : List D := [.bool x.Skip, .list (List.map encApiWord x.Words), .str x.Comment]
theorem al_ApiBlock {l : List ApiBlock} : (List.map encApiBlock l).all (fun x => x.length == 3) = true := by simp [List.all_eq_true, encApiBlock]
structure R45Length where
  Number : Int
  Length : Int
  deriving DecidableEq
def encR45Length (x : R45Length) : List D := [.int .i64 x.Number, .int .i64 x.Length]
theorem al_R45Length {l : List R45Length} : (List.map encR45Length l).all (fun x => x.length == 2) = true := by simp [List.all_eq_true, encR45Length]
structure ApiPos where
  X : Int
  Y : Int
  Z : Int
  deriving DecidableEq
def encApiPos (x : ApiPos) : List D := [.int .i64 x.X, .int .i64 x.Y, .int .i64 x.Z]
theorem al_ApiPos {l : List ApiPos} : (List.map encApiPos l).all (fun x => x.length == 3) = true := by simp [List.all_eq_true, encApiPos]
structure Arr6ApiPos where
  e0 : ApiPos
  e1 : ApiPos
  e2 : ApiPos
  e3 : ApiPos
  e4 : ApiPos
  e5 : ApiPos
  deriving DecidableEq
def encArr6ApiPos (x : Arr6ApiPos) : List D := [.int .i64 x.e0.X, .int .i64 x.e0.Y, .int .i64 x.e0.Z, .int .i64 x.e1.X, .int .i64 x.e1.Y, .int .i64 x.e1.Z, .int .i64 x.e2.X, .int .i64 x.e2.Y, .int .i64 x.e2.Z, .int .i64 x.e3.X, .int .i64 x.e3.Y, .int .i64 x.e3.Z, .int .i64 x.e4.X, .int .i64 x.e4.Y, .int .i64 x.e4.Z, .int .i64 x.e5.X, .int .i64 x.e5.Y, .int .i64 x.e5.Z]
theorem al_Arr6ApiPos {l : List Arr6ApiPos} : (List.map encArr6ApiPos l).all (fun x => x.length == 18) = true := by simp [List.all_eq_true, encArr6ApiPos]
structure R45Table where
  Work : Arr6ApiPos
  Lengths : (List R45Length)
  deriving DecidableEq
def encR45Table (x : R45Table) : List D := [.int .i64 x.Work.e0.X, .int .i64 x.Work.e0.Y, .int .i64 x.Work.e0.Z, .int .i64 x.Work.e1.X, .int .i64 x.Work.e1.Y, .int .i64 x.Work.e1.Z, .int .i64 x.Work.e2.X, .int .i64 x.Work.e2.Y, .int .i64 x.Work.e2.Z, .int .i64 x.Work.e3.X, .int .i64 x.Work.e3.Y, .int .i64 x.Work.e3.Z, .int .i64 x.Work.e4.X, .int .i64 x.Work.e4.Y, .int .i64 x.Work.e4.Z, .int .i64 x.Work.e5.X, .int .i64 x.Work.e5.Y, .int .i64 x.Work.e5.Z, .list (List.map encR45Length x.Lengths)]
theorem al_R45Table {l : List R45Table} : (List.map encR45Table l).all (fun x => x.length == 19) = true := by simp [List.all_eq_true, encR45Table]
structure TableLength where
  Number : Int
  Length : Int
  deriving DecidableEq
def encTableLength (x : TableLength) : List D := [.int .i64 x.Number, .int .i64 x.Length]
theorem al_TableLength {l : List TableLength} : (List.map encTableLength l).all (fun x => x.length == 2) = true := by simp [List.all_eq_true, encTableLength]
structure TableTable where
  Work : Arr6ApiPos
  Lengths : (List TableLength)
  deriving DecidableEq
def encTableTable (x : TableTable) : List D := [.int .i64 x.Work.e0.X, .int .i64 x.Work.e0.Y, .int .i64 x.Work.e0.Z, .int .i64 x.Work.e1.X, .int .i64 x.Work.e1.Y, .int .i64 x.Work.e1.Z, .int .i64 x.Work.e2.X, .int .i64 x.Work.e2.Y, .int .i64 x.Work.e2.Z, .int .i64 x.Work.e3.X, .int .i64 x.Work.e3.Y, .int .i64 x.Work.e3.Z, .int .i64 x.Work.e4.X, .int .i64 x.Work.e4.Y, .int .i64 x.Work.e4.Z, .int .i64 x.Work.e5.X, .int .i64 x.Work.e5.Y, .int .i64 x.Work.e5.Z, .list (List.map encTableLength x.Lengths)]
theorem al_TableTable {l : List TableTable} : (List.map encTableTable l).all (fun x => x.length == 19) = true := by simp [List.all_eq_true, encTableTable]
structure InterpreterAlarm where
  Block : Int
  Code : Int
  deriving DecidableEq
def encInterpreterAlarm (x : InterpreterAlarm) : List D := [.int .i64 x.Block, .int .i64 x.Code]
theorem al_InterpreterAlarm {l : List InterpreterAlarm} : (List.map encInterpreterAlarm l).all (fun x => x.length == 2) = true := by simp [List.all_eq_true, encInterpreterAlarm]
structure ModalState where
  Motion : Int
  Distance : Int
  Work : Int
  Length : Int
  Return : Int
  Feed : Int
  Tool : Int
  Offset : Int
  deriving DecidableEq
def encModalState (x : ModalState) : List D := [.int .i64 x.Motion, .int .i64 x.Distance, .int .i64 x.Work, .int .i64 x.Length, .int .i64 x.Return, .int .i64 x.Feed, .int .i64 x.Tool, .int .i64 x.Offset]
theorem al_ModalState {l : List ModalState} : (List.map encModalState l).all (fun x => x.length == 8) = true := by simp [List.all_eq_true, encModalState]
structure CycleCycle where
  Code : Int
  R : Int
  Z : Int
  Q : Int
  Rate : Int
  Initial : Int
  High : Bool
  deriving DecidableEq
def encCycleCycle (x : CycleCycle) : List D := [.int .i64 x.Code, .int .i64 x.R, .int .i64 x.Z, .int .i64 x.Q, .int .i64 x.Rate, .int .i64 x.Initial, .bool x.High]
theorem al_CycleCycle {l : List CycleCycle} : (List.map encCycleCycle l).all (fun x => x.length == 7) = true := by simp [List.all_eq_true, encCycleCycle]
structure InterpreterReached where
  at_ : ApiPos
  rate : Int
  deriving DecidableEq
def encInterpreterReached (x : InterpreterReached) : List D := [.int .i64 x.at_.X, .int .i64 x.at_.Y, .int .i64 x.at_.Z, .int .i64 x.rate]
theorem al_InterpreterReached {l : List InterpreterReached} : (List.map encInterpreterReached l).all (fun x => x.length == 4) = true := by simp [List.all_eq_true, encInterpreterReached]
structure ApiGrid2 where
  X : Int
  Y : Int
  deriving DecidableEq
def encApiGrid2 (x : ApiGrid2) : List D := [.int .i64 x.X, .int .i64 x.Y]
theorem al_ApiGrid2 {l : List ApiGrid2} : (List.map encApiGrid2 l).all (fun x => x.length == 2) = true := by simp [List.all_eq_true, encApiGrid2]
structure ApiMove where
  Kind : Int
  To : ApiPos
  Center : ApiGrid2
  Rate : Int
  deriving DecidableEq
def encApiMove (x : ApiMove) : List D := [.int .i64 x.Kind, .int .i64 x.To.X, .int .i64 x.To.Y, .int .i64 x.To.Z, .int .i64 x.Center.X, .int .i64 x.Center.Y, .int .i64 x.Rate]
theorem al_ApiMove {l : List ApiMove} : (List.map encApiMove l).all (fun x => x.length == 7) = true := by simp [List.all_eq_true, encApiMove]
structure ApiMotion where
  From : ApiPos
  To : ApiPos
  Rate : Int
  Tool : Int
  Block : Int
  deriving DecidableEq
def encApiMotion (x : ApiMotion) : List D := [.int .i64 x.From.X, .int .i64 x.From.Y, .int .i64 x.From.Z, .int .i64 x.To.X, .int .i64 x.To.Y, .int .i64 x.To.Z, .int .i64 x.Rate, .int .i64 x.Tool, .int .i64 x.Block]
theorem al_ApiMotion {l : List ApiMotion} : (List.map encApiMotion l).all (fun x => x.length == 9) = true := by simp [List.all_eq_true, encApiMotion]
def l47_word (a0 : Int) (a1 : Int) : Option ApiWord :=
  some (ApiWord.mk a0 a1)
theorem l47_word_spec {a0 : Int} {a1 : Int} {y : ApiWord} (h : l47_word a0 a1 = some y) : Spec gP 13 [.d (.int .u8 a0), .d (.int .i64 a1)] (.agg [.d (.int .u8 y.Letter), .d (.int .i64 y.Value)]) := by
  refine spec_mir Tryd.func13 rfl (by kernel_rfl) (by kernel_rfl) (fun y : ApiWord => .agg [.d (.int .u8 y.Letter), .d (.int .i64 y.Value)]) ?_ h
  unfold l47_word
  simp only [List.replicate, List.length, nS, nA, Tryd.ntmps13, SV]
  refine Mir.seqK ?_
  refine Mir.region fun e h => ?_
  simp only [↓reduceIte, reduceCtorEq, nA, nS, nM, nE, nL, nT, nB, iT, iN, iE, and_self, SR, SV, zero_38]
  refine Mir.use (e := e) ?_ h
  refine Mir.seqK ?_
  refine Mir.region fun e h => ?_
  simp only [↓reduceIte, reduceCtorEq, nA, nS, nM, nE, nL, nT, nB, iT, iN, iE, and_self, SR, SV, zero_38, pl_38, sz_38]
  refine Mir.use (e := e) ?_ h
  refine Mir.ret fun e h => ?_
  cases h
  simp only [↓reduceIte, reduceCtorEq, nA, nE, nL, and_self, and_true, true_and, SL, Tryd.results13, ag_38, sz_38]

def l47_program (a0 : Bool) : Option (List ApiBlock) :=
  bindO (l47_word 71 1000) fun (y101 : ApiWord) =>
  bindO (l47_word 88 1000) fun (y102 : ApiWord) =>
  bindO (if a0 = true then
        bindO (l47_word 70 10000) fun (y105 : ApiWord) =>
        some [y101, y102, y105]
      else
        some [y101, y102]) fun (v104 : (List ApiWord)) =>
  bindO (l47_word 71 55000) fun (y106 : ApiWord) =>
  bindO (l47_word 71 43000) fun (y107 : ApiWord) =>
  bindO (l47_word 72 3000) fun (y108 : ApiWord) =>
  bindO (l47_word 84 3000) fun (y109 : ApiWord) =>
  bindO (l47_word 71 0) fun (y110 : ApiWord) =>
  bindO (l47_word 88 0) fun (y111 : ApiWord) =>
  bindO (l47_word 89 0) fun (y112 : ApiWord) =>
  bindO (l47_word 90 0) fun (y113 : ApiWord) =>
  bindO (l47_word 77 30000) fun (y114 : ApiWord) =>
  some [ApiBlock.mk false [y106, y107, y108, y109] [], ApiBlock.mk false [y110, y111, y112, y113] [], ApiBlock.mk false v104 [], ApiBlock.mk false [y114] []]
theorem l47_program_spec {a0 : Bool} {y : (List ApiBlock)} (h : l47_program a0 = some y) : Spec gP 36 [.d (.bool a0)] (.d (.list (List.map encApiBlock y))) := by
  refine spec_mir Tryd.func36 rfl (by kernel_rfl) (by kernel_rfl) (fun y : (List ApiBlock) => .d (.list (List.map encApiBlock y))) ?_ h
  unfold l47_program
  simp only [List.replicate, List.length, nS, nA, Tryd.ntmps36, SV]
  refine Mir.seqK ?_
  refine Mir.region fun e h => ?_
  simp only [↓reduceIte, reduceCtorEq, nA, nS, nM, nE, nL, nT, nB, iT, iN, iE, and_self, SR, SV, encApiBlock, encApiWord]
  refine Mir.use (e := e) ?_ h
  refine Mir.seqK ?_
  refine Mir.bind fun y101 hy1 => ?_
  refine Mir.bind fun y102 hy2 => ?_
  refine Mir.region fun e h => ?_
  simp only [↓reduceIte, reduceCtorEq, nA, nS, nM, nE, nL, nT, nB, iT, iN, iE, and_self, SR, SV, encApiBlock, encApiWord]
  refine SpecS.by (l47_word_spec hy1) (by simp only [↓reduceIte, reduceCtorEq, nA, nE, nL, and_self, and_true, true_and, SL, encApiBlock, encApiWord]) ?_
  simp only [↓reduceIte, reduceCtorEq, nA, nS, nM, nE, nL, nT, nB, iT, iN, iE, and_self, SR, SV, encApiBlock, encApiWord]
  refine SpecS.by (l47_word_spec hy2) (by simp only [↓reduceIte, reduceCtorEq, nA, nE, nL, and_self, and_true, true_and, SL, encApiBlock, encApiWord]) ?_
  simp only [↓reduceIte, reduceCtorEq, nA, nS, nM, nE, nL, nT, nB, iT, iN, iE, and_self, SR, SV, und_40, sz_38, zero_38, (nr rfl : okLen 4 = true), zero_42, pl_42, sz_42, encApiBlock, encApiWord]
  refine Mir.use (e := e) ?_ h
  refine Mir.seqK ?_
  refine Mir.seqK ?_
  refine Mir.region fun e h => ?_
  simp only [↓reduceIte, reduceCtorEq, nA, nS, nM, nE, nL, nT, nB, iT, iN, iE, and_self, SR, SV, encApiBlock, encApiWord]
  refine Mir.use (e := e) ?_ h
  refine Mir.joinO (fun v104 : (List ApiWord) => [U, U, U, .ptr 0 0, U, U, U, U, U, U, U, U, U, U, U, U, U, U, U, U, U, U, U, U, U, U, U, U, U, U, U, U]) (fun v104 : (List ApiWord) => ⟨[[.d (.bool false), .d (.list (List.map encApiWord v104)), .d (.str [])]], []⟩) (fun _ => rfl) ?_ ?_
  ·refine Mir.cond rfl (fun hb5 => ?_) (fun hb5 => ?_)
   ·refine Mir.bind fun y105 hy6 => ?_
    refine Mir.regionD [] (by kernel_rfl) fun e h => ?_
    simp only [↓reduceIte, reduceCtorEq, nA, nS, nM, nE, nL, nT, nB, iT, iN, iE, and_self, SR, SV, sepL_nil, sepL_cons, sepV_ne, sepV_d, sepV_i, true_and, Bool.and_self, fld_42_1, sz_40, ag_40, encApiWord]
    refine Spec.by (l47_word_spec hy6) (by simp only [↓reduceIte, reduceCtorEq, nA, nE, nL, and_self, and_true, true_and, SL, encApiWord]) ?_
    simp only [↓reduceIte, reduceCtorEq, nA, nS, nM, nE, nL, nT, nB, iT, iN, iE, and_self, SR, SV, sepL_nil, sepL_cons, sepV_ne, sepV_d, sepV_i, true_and, Bool.and_self, und_40, sz_38, zero_38, (nr rfl : okLen 2 = true), app_40, al_ApiWord, (nr rfl : okLen 3 = true), fld_42_1, sz_40, encApiWord]
    cases h
    simp only [↓reduceIte, reduceCtorEq, nA, nE, nL, and_self, and_true, true_and, SL, encApiWord, Tryd.results36]
   ·refine Mir.skip fun e h => ?_
    cases h
    simp only [↓reduceIte, reduceCtorEq, nA, nE, nL, and_self, and_true, true_and, SL, encApiWord, Tryd.results36]
  ·intro v104
   refine Mir.toK ?_
   refine Mir.seqK ?_
   refine Mir.bind fun y106 hy7 => ?_
   refine Mir.bind fun y107 hy8 => ?_
   refine Mir.bind fun y108 hy9 => ?_
   refine Mir.bind fun y109 hy10 => ?_
   refine Mir.bind fun y110 hy11 => ?_
   refine Mir.bind fun y111 hy12 => ?_
   refine Mir.bind fun y112 hy13 => ?_
   refine Mir.bind fun y113 hy14 => ?_
   refine Mir.bind fun y114 hy15 => ?_
   refine Mir.regionD [] (by kernel_rfl) fun e h => ?_
   simp only [↓reduceIte, reduceCtorEq, nA, nS, nM, nE, nL, nT, nB, iT, iN, iE, and_self, SR, SV, sepL_nil, sepL_cons, sepV_ne, sepV_d, sepV_i, true_and, Bool.and_self, encApiBlock, encApiWord]
   refine Spec.by (l47_word_spec hy7) (by simp only [↓reduceIte, reduceCtorEq, nA, nE, nL, and_self, and_true, true_and, SL, encApiBlock, encApiWord]) ?_
   simp only [↓reduceIte, reduceCtorEq, nA, nS, nM, nE, nL, nT, nB, iT, iN, iE, and_self, SR, SV, sepL_nil, sepL_cons, sepV_ne, sepV_d, sepV_i, true_and, Bool.and_self, encApiBlock, encApiWord]
   refine Spec.by (l47_word_spec hy8) (by simp only [↓reduceIte, reduceCtorEq, nA, nE, nL, and_self, and_true, true_and, SL, encApiBlock, encApiWord]) ?_
   simp only [↓reduceIte, reduceCtorEq, nA, nS, nM, nE, nL, nT, nB, iT, iN, iE, and_self, SR, SV, sepL_nil, sepL_cons, sepV_ne, sepV_d, sepV_i, true_and, Bool.and_self, encApiBlock, encApiWord]
   refine Spec.by (l47_word_spec hy9) (by simp only [↓reduceIte, reduceCtorEq, nA, nE, nL, and_self, and_true, true_and, SL, encApiBlock, encApiWord]) ?_
   simp only [↓reduceIte, reduceCtorEq, nA, nS, nM, nE, nL, nT, nB, iT, iN, iE, and_self, SR, SV, sepL_nil, sepL_cons, sepV_ne, sepV_d, sepV_i, true_and, Bool.and_self, encApiBlock, encApiWord]
   refine Spec.by (l47_word_spec hy10) (by simp only [↓reduceIte, reduceCtorEq, nA, nE, nL, and_self, and_true, true_and, SL, encApiBlock, encApiWord]) ?_
   simp only [↓reduceIte, reduceCtorEq, nA, nS, nM, nE, nL, nT, nB, iT, iN, iE, and_self, SR, SV, sepL_nil, sepL_cons, sepV_ne, sepV_d, sepV_i, true_and, Bool.and_self, und_40, sz_38, zero_38, (nr rfl : okLen 8 = true), zero_42, pl_42, encApiBlock, encApiWord]
   refine Spec.by (l47_word_spec hy11) (by simp only [↓reduceIte, reduceCtorEq, nA, nE, nL, and_self, and_true, true_and, SL, encApiBlock, encApiWord]) ?_
   simp only [↓reduceIte, reduceCtorEq, nA, nS, nM, nE, nL, nT, nB, iT, iN, iE, and_self, SR, SV, sepL_nil, sepL_cons, sepV_ne, sepV_d, sepV_i, true_and, Bool.and_self, encApiBlock, encApiWord]
   refine Spec.by (l47_word_spec hy12) (by simp only [↓reduceIte, reduceCtorEq, nA, nE, nL, and_self, and_true, true_and, SL, encApiBlock, encApiWord]) ?_
   simp only [↓reduceIte, reduceCtorEq, nA, nS, nM, nE, nL, nT, nB, iT, iN, iE, and_self, SR, SV, sepL_nil, sepL_cons, sepV_ne, sepV_d, sepV_i, true_and, Bool.and_self, encApiBlock, encApiWord]
   refine Spec.by (l47_word_spec hy13) (by simp only [↓reduceIte, reduceCtorEq, nA, nE, nL, and_self, and_true, true_and, SL, encApiBlock, encApiWord]) ?_
   simp only [↓reduceIte, reduceCtorEq, nA, nS, nM, nE, nL, nT, nB, iT, iN, iE, and_self, SR, SV, sepL_nil, sepL_cons, sepV_ne, sepV_d, sepV_i, true_and, Bool.and_self, encApiBlock, encApiWord]
   refine Spec.by (l47_word_spec hy14) (by simp only [↓reduceIte, reduceCtorEq, nA, nE, nL, and_self, and_true, true_and, SL, encApiBlock, encApiWord]) ?_
   simp only [↓reduceIte, reduceCtorEq, nA, nS, nM, nE, nL, nT, nB, iT, iN, iE, and_self, SR, SV, sepL_nil, sepL_cons, sepV_ne, sepV_d, sepV_i, true_and, Bool.and_self, und_40, sz_38, zero_38, (nr rfl : okLen 8 = true), zero_42, pl_42, ag_42, sz_42, encApiBlock, encApiWord]
   refine Spec.by (l47_word_spec hy15) (by simp only [↓reduceIte, reduceCtorEq, nA, nE, nL, and_self, and_true, true_and, SL, encApiBlock, encApiWord]) ?_
   simp only [↓reduceIte, reduceCtorEq, nA, nS, nM, nE, nL, nT, nB, iT, iN, iE, and_self, SR, SV, sepL_nil, sepL_cons, sepV_ne, sepV_d, sepV_i, true_and, Bool.and_self, und_40, sz_38, zero_38, (nr rfl : okLen 2 = true), zero_42, pl_42, und_43, sz_42, (nr rfl : okLen 12 = true), encApiBlock, encApiWord]
   refine Mir.use (e := e) ?_ h
   refine Mir.ret fun e h => ?_
   cases h
   simp only [↓reduceIte, reduceCtorEq, nA, nE, nL, and_self, and_true, true_and, SL, encApiBlock, encApiWord, Tryd.results36]

def r47_Table  : Option R45Table :=
  some (R45Table.mk (Arr6ApiPos.mk (ApiPos.mk 0 0 0) (ApiPos.mk 1000 2000 (-500)) (ApiPos.mk 0 0 0) (ApiPos.mk 0 0 0) (ApiPos.mk 0 0 0) (ApiPos.mk 0 0 0)) [R45Length.mk 3 75000])
theorem r47_Table_spec  {y : R45Table} (h : r47_Table = some y) : Spec gP 37 [] (.agg [.d (.int .i64 y.Work.e0.X), .d (.int .i64 y.Work.e0.Y), .d (.int .i64 y.Work.e0.Z), .d (.int .i64 y.Work.e1.X), .d (.int .i64 y.Work.e1.Y), .d (.int .i64 y.Work.e1.Z), .d (.int .i64 y.Work.e2.X), .d (.int .i64 y.Work.e2.Y), .d (.int .i64 y.Work.e2.Z), .d (.int .i64 y.Work.e3.X), .d (.int .i64 y.Work.e3.Y), .d (.int .i64 y.Work.e3.Z), .d (.int .i64 y.Work.e4.X), .d (.int .i64 y.Work.e4.Y), .d (.int .i64 y.Work.e4.Z), .d (.int .i64 y.Work.e5.X), .d (.int .i64 y.Work.e5.Y), .d (.int .i64 y.Work.e5.Z), .d (.list (List.map encR45Length y.Lengths))]) := by
  refine spec_mir Tryd.func37 rfl (by kernel_rfl) (by kernel_rfl) (fun y : R45Table => .agg [.d (.int .i64 y.Work.e0.X), .d (.int .i64 y.Work.e0.Y), .d (.int .i64 y.Work.e0.Z), .d (.int .i64 y.Work.e1.X), .d (.int .i64 y.Work.e1.Y), .d (.int .i64 y.Work.e1.Z), .d (.int .i64 y.Work.e2.X), .d (.int .i64 y.Work.e2.Y), .d (.int .i64 y.Work.e2.Z), .d (.int .i64 y.Work.e3.X), .d (.int .i64 y.Work.e3.Y), .d (.int .i64 y.Work.e3.Z), .d (.int .i64 y.Work.e4.X), .d (.int .i64 y.Work.e4.Y), .d (.int .i64 y.Work.e4.Z), .d (.int .i64 y.Work.e5.X), .d (.int .i64 y.Work.e5.Y), .d (.int .i64 y.Work.e5.Z), .d (.list (List.map encR45Length y.Lengths))]) ?_ h
  unfold r47_Table
  simp only [List.replicate, List.length, nS, nA, Tryd.ntmps37, SV]
  refine Mir.seqK ?_
  refine Mir.region fun e h => ?_
  simp only [↓reduceIte, reduceCtorEq, nA, nS, nM, nE, nL, nT, nB, iT, iN, iE, and_self, SR, SV, zero_28, encR45Length]
  refine Mir.use (e := e) ?_ h
  refine Mir.seqK ?_
  refine Mir.region fun e h => ?_
  simp only [↓reduceIte, reduceCtorEq, nA, nS, nM, nE, nL, nT, nB, iT, iN, iE, and_self, SR, SV, zero_93, pl_93, und_26, sz_93, (nr rfl : okLen 2 = true), zero_28, pl_28, sz_28, encR45Length]
  refine Mir.use (e := e) ?_ h
  refine Mir.seqK ?_
  refine Mir.region fun e h => ?_
  simp only [↓reduceIte, reduceCtorEq, nA, nS, nM, nE, nL, nT, nB, iT, iN, iE, and_self, SR, SV, zero_24, pl_24, fld_28_0, sz_25, und_25, sz_24, ag_24, encR45Length]
  refine Mir.use (e := e) ?_ h
  refine Mir.seqK ?_
  refine Mir.region fun e h => ?_
  simp only [↓reduceIte, reduceCtorEq, nA, nS, nM, nE, nL, nT, nB, iT, iN, iE, and_self, SR, SV, ag_28, sz_28, encR45Length]
  refine Mir.use (e := e) ?_ h
  refine Mir.ret fun e h => ?_
  cases h
  simp only [↓reduceIte, reduceCtorEq, nA, nE, nL, and_self, and_true, true_and, SL, encR45Length, Tryd.results37, ag_28, sz_28]

def l47_theirs (a0 : R45Table) : Option TableTable :=
  bindO (guardO (okIdx a0.Lengths) (
      rangeX (fun (i144 : Nat) (e146 : R45Length) (v145 : (List TableLength)) =>
        guardO (okLen (v145.length + 1)) (
        some (.go (v145 ++ [TableLength.mk e146.Number e146.Length])))) (fun (v145 : (List TableLength)) => some v145) a0.Lengths 0 [])) fun (v132 : (List TableLength)) =>
  some (TableTable.mk a0.Work v132)
theorem l47_theirs_spec {a0 : R45Table} {y : TableTable} (h : l47_theirs a0 = some y) : Spec gP 16 [.agg [.d (.int .i64 a0.Work.e0.X), .d (.int .i64 a0.Work.e0.Y), .d (.int .i64 a0.Work.e0.Z), .d (.int .i64 a0.Work.e1.X), .d (.int .i64 a0.Work.e1.Y), .d (.int .i64 a0.Work.e1.Z), .d (.int .i64 a0.Work.e2.X), .d (.int .i64 a0.Work.e2.Y), .d (.int .i64 a0.Work.e2.Z), .d (.int .i64 a0.Work.e3.X), .d (.int .i64 a0.Work.e3.Y), .d (.int .i64 a0.Work.e3.Z), .d (.int .i64 a0.Work.e4.X), .d (.int .i64 a0.Work.e4.Y), .d (.int .i64 a0.Work.e4.Z), .d (.int .i64 a0.Work.e5.X), .d (.int .i64 a0.Work.e5.Y), .d (.int .i64 a0.Work.e5.Z), .d (.list (List.map encR45Length a0.Lengths))]] (.agg [.d (.int .i64 y.Work.e0.X), .d (.int .i64 y.Work.e0.Y), .d (.int .i64 y.Work.e0.Z), .d (.int .i64 y.Work.e1.X), .d (.int .i64 y.Work.e1.Y), .d (.int .i64 y.Work.e1.Z), .d (.int .i64 y.Work.e2.X), .d (.int .i64 y.Work.e2.Y), .d (.int .i64 y.Work.e2.Z), .d (.int .i64 y.Work.e3.X), .d (.int .i64 y.Work.e3.Y), .d (.int .i64 y.Work.e3.Z), .d (.int .i64 y.Work.e4.X), .d (.int .i64 y.Work.e4.Y), .d (.int .i64 y.Work.e4.Z), .d (.int .i64 y.Work.e5.X), .d (.int .i64 y.Work.e5.Y), .d (.int .i64 y.Work.e5.Z), .d (.list (List.map encTableLength y.Lengths))]) := by
  refine spec_mir Tryd.func16 rfl (by kernel_rfl) (by kernel_rfl) (fun y : TableTable => .agg [.d (.int .i64 y.Work.e0.X), .d (.int .i64 y.Work.e0.Y), .d (.int .i64 y.Work.e0.Z), .d (.int .i64 y.Work.e1.X), .d (.int .i64 y.Work.e1.Y), .d (.int .i64 y.Work.e1.Z), .d (.int .i64 y.Work.e2.X), .d (.int .i64 y.Work.e2.Y), .d (.int .i64 y.Work.e2.Z), .d (.int .i64 y.Work.e3.X), .d (.int .i64 y.Work.e3.Y), .d (.int .i64 y.Work.e3.Z), .d (.int .i64 y.Work.e4.X), .d (.int .i64 y.Work.e4.Y), .d (.int .i64 y.Work.e4.Z), .d (.int .i64 y.Work.e5.X), .d (.int .i64 y.Work.e5.Y), .d (.int .i64 y.Work.e5.Z), .d (.list (List.map encTableLength y.Lengths))]) ?_ h
  unfold l47_theirs
  simp only [List.replicate, List.length, nS, nA, Tryd.ntmps16, SV]
  refine Mir.seqK ?_
  refine Mir.region fun e h => ?_
  simp only [↓reduceIte, reduceCtorEq, nA, nS, nM, nE, nL, nT, nB, iT, iN, iE, and_self, SR, SV, zero_54, encR45Length, encTableLength]
  refine Mir.use (e := e) ?_ h
  refine Mir.seqK ?_
  refine Mir.region fun e h => ?_
  simp only [↓reduceIte, reduceCtorEq, nA, nS, nM, nE, nL, nT, nB, iT, iN, iE, and_self, SR, SV, fld_28_0, sz_25, ag_25, zero_54, pl_54, sz_54, encR45Length, encTableLength]
  refine Mir.use (e := e) ?_ h
  refine Mir.seqK ?_
  refine Mir.seqK ?_
  refine Mir.region fun e h => ?_
  simp only [↓reduceIte, reduceCtorEq, nA, nS, nM, nE, nL, nT, nB, iT, iN, iE, and_self, SR, SV, fld_28_1, sz_26, ag_26, und_26, encR45Length, encTableLength]
  refine Mir.use (e := e) ?_ h
  refine Mir.gh [.cell 2 18 100] rfl ?_
  refine Mir.joinO (fun v132 : (List TableLength) => [U, U, .ptr 1 0, .ptr 2 0, U, U, U, U, U, U, U, U, U, U, U, U, U, U, U, U, U, U, U, U, U, U, U, U]) (fun v132 : (List TableLength) => ⟨[[.d (.int .i64 a0.Work.e0.X), .d (.int .i64 a0.Work.e0.Y), .d (.int .i64 a0.Work.e0.Z), .d (.int .i64 a0.Work.e1.X), .d (.int .i64 a0.Work.e1.Y), .d (.int .i64 a0.Work.e1.Z), .d (.int .i64 a0.Work.e2.X), .d (.int .i64 a0.Work.e2.Y), .d (.int .i64 a0.Work.e2.Z), .d (.int .i64 a0.Work.e3.X), .d (.int .i64 a0.Work.e3.Y), .d (.int .i64 a0.Work.e3.Z), .d (.int .i64 a0.Work.e4.X), .d (.int .i64 a0.Work.e4.Y), .d (.int .i64 a0.Work.e4.Z), .d (.int .i64 a0.Work.e5.X), .d (.int .i64 a0.Work.e5.Y), .d (.int .i64 a0.Work.e5.Z), .d (.list (List.map encR45Length a0.Lengths))], [.d (.int .i64 0), .d (.int .i64 0), .d (.int .i64 0), .d (.int .i64 0), .d (.int .i64 0), .d (.int .i64 0), .d (.int .i64 0), .d (.int .i64 0), .d (.int .i64 0), .d (.int .i64 0), .d (.int .i64 0), .d (.int .i64 0), .d (.int .i64 0), .d (.int .i64 0), .d (.int .i64 0), .d (.int .i64 0), .d (.int .i64 0), .d (.int .i64 0), .nil], [.d (.int .i64 a0.Work.e0.X), .d (.int .i64 a0.Work.e0.Y), .d (.int .i64 a0.Work.e0.Z), .d (.int .i64 a0.Work.e1.X), .d (.int .i64 a0.Work.e1.Y), .d (.int .i64 a0.Work.e1.Z), .d (.int .i64 a0.Work.e2.X), .d (.int .i64 a0.Work.e2.Y), .d (.int .i64 a0.Work.e2.Z), .d (.int .i64 a0.Work.e3.X), .d (.int .i64 a0.Work.e3.Y), .d (.int .i64 a0.Work.e3.Z), .d (.int .i64 a0.Work.e4.X), .d (.int .i64 a0.Work.e4.Y), .d (.int .i64 a0.Work.e4.Z), .d (.int .i64 a0.Work.e5.X), .d (.int .i64 a0.Work.e5.Y), .d (.int .i64 a0.Work.e5.Z), .own 0 (List.map encTableLength v132)]], [(100, v132.length)]⟩) (fun _ => rfl) ?_ ?_
  ·refine Mir.block ?_
   refine Mir.guard fun qg65 => ?_
   refine Mir.range (fun (i144 : Nat) (v145 : (List TableLength)) => [U, U, .ptr 1 0, .ptr 2 0, U, U, U, U, U, U, .d (.list (List.map encR45Length a0.Lengths)), .d (.int .i64 (a0.Lengths.length : Int)), .d (.int .i64 (i144 : Int)), U, U, U, U, U, U, U, U, U, U, U, U, U, U, U]) (fun (i144 : Nat) (v145 : (List TableLength)) => ⟨[[.d (.int .i64 a0.Work.e0.X), .d (.int .i64 a0.Work.e0.Y), .d (.int .i64 a0.Work.e0.Z), .d (.int .i64 a0.Work.e1.X), .d (.int .i64 a0.Work.e1.Y), .d (.int .i64 a0.Work.e1.Z), .d (.int .i64 a0.Work.e2.X), .d (.int .i64 a0.Work.e2.Y), .d (.int .i64 a0.Work.e2.Z), .d (.int .i64 a0.Work.e3.X), .d (.int .i64 a0.Work.e3.Y), .d (.int .i64 a0.Work.e3.Z), .d (.int .i64 a0.Work.e4.X), .d (.int .i64 a0.Work.e4.Y), .d (.int .i64 a0.Work.e4.Z), .d (.int .i64 a0.Work.e5.X), .d (.int .i64 a0.Work.e5.Y), .d (.int .i64 a0.Work.e5.Z), .d (.list (List.map encR45Length a0.Lengths))], [.d (.int .i64 0), .d (.int .i64 0), .d (.int .i64 0), .d (.int .i64 0), .d (.int .i64 0), .d (.int .i64 0), .d (.int .i64 0), .d (.int .i64 0), .d (.int .i64 0), .d (.int .i64 0), .d (.int .i64 0), .d (.int .i64 0), .d (.int .i64 0), .d (.int .i64 0), .d (.int .i64 0), .d (.int .i64 0), .d (.int .i64 0), .d (.int .i64 0), .nil], [.d (.int .i64 a0.Work.e0.X), .d (.int .i64 a0.Work.e0.Y), .d (.int .i64 a0.Work.e0.Z), .d (.int .i64 a0.Work.e1.X), .d (.int .i64 a0.Work.e1.Y), .d (.int .i64 a0.Work.e1.Z), .d (.int .i64 a0.Work.e2.X), .d (.int .i64 a0.Work.e2.Y), .d (.int .i64 a0.Work.e2.Z), .d (.int .i64 a0.Work.e3.X), .d (.int .i64 a0.Work.e3.Y), .d (.int .i64 a0.Work.e3.Z), .d (.int .i64 a0.Work.e4.X), .d (.int .i64 a0.Work.e4.Y), .d (.int .i64 a0.Work.e4.Z), .d (.int .i64 a0.Work.e5.X), .d (.int .i64 a0.Work.e5.Y), .d (.int .i64 a0.Work.e5.Z), .own 0 (List.map encTableLength v145)]], [(100, v145.length)]⟩) qg65 (fun _ _ => rfl) (by simp only [↓reduceIte, reduceCtorEq, nA, nE, nL, and_self, and_true, true_and, SL, encR45Length, encTableLength, (nr rfl : ((0 : Nat) : Int) = 0)]) (by simp only [↓reduceIte, reduceCtorEq, nA, nE, nL, and_self, and_true, true_and, SL, encR45Length, encTableLength, (nr rfl : ((0 : Nat) : Int) = 0)]) ?_ ?_
   ·intro i144 e146 v145 qr63
    refine Mir.seqK ?_
    refine Mir.region fun e h => ?_
    simp only [↓reduceIte, reduceCtorEq, nA, nS, nM, nE, nL, nT, nB, iT, iN, iE, and_self, SR, SV, qr63, encR45Length, encTableLength]
    refine Mir.use (e := e) ?_ h
    refine Mir.seqK ?_
    refine Mir.condT rfl ?_
    refine Mir.skip ?_
    refine Mir.toK ?_
    refine Mir.seqK ?_
    refine Mir.block ?_
    refine Mir.seqK ?_
    refine Mir.region fun e h => ?_
    simp only [↓reduceIte, reduceCtorEq, nA, nS, nM, nE, nL, nT, nB, iT, iN, iE, and_self, SR, SV, und_26, sz_93, qr63, Int.toNat_natCast, ag_93, zero_93, encR45Length, encTableLength]
    refine Mir.use (e := e) ?_ h
    refine Mir.guard fun q67 => ?_
    refine Mir.region fun e h => ?_
    simp only [↓reduceIte, reduceCtorEq, nA, nS, nM, nE, nL, nT, nB, iT, iN, iE, and_self, SR, SV, fld_54_1, sz_52, ag_52, fld_93_0, sz_2, ag_2, fld_93_1, zero_100, pl_100, und_52, sz_100, (nr rfl : okLen 2 = true), app_52, al_TableLength, q67, encR45Length, encTableLength]
    refine Mir.use (e := e) ?_ h
    refine Mir.region fun e h => ?_
    simp only [↓reduceIte, reduceCtorEq, nA, nS, nM, nE, nL, nT, nB, iT, iN, iE, and_self, SR, SV, encR45Length, encTableLength]
    cases h
    simp only [↓reduceIte, reduceCtorEq, nA, nE, nL, and_self, and_true, true_and, SL, encR45Length, encTableLength, Tryd.results16, ag_54, sz_54, qr63]
   ·intro v145 qd64
    refine Mir.seqK ?_
    refine Mir.region fun e h => ?_
    simp only [↓reduceIte, reduceCtorEq, nA, nS, nM, nE, nL, nT, nB, iT, iN, iE, and_self, SR, SV, qd64, encR45Length, encTableLength]
    refine Mir.use (e := e) ?_ h
    refine Mir.seqK ?_
    refine Mir.condF rfl ?_
    refine Mir.exit fun e h => ?_
    cases h
    simp only [↓reduceIte, reduceCtorEq, nA, nE, nL, and_self, and_true, true_and, SL, encR45Length, encTableLength, Tryd.results16, ag_54, sz_54]
  ·intro v132
   refine Mir.toK ?_
   refine Mir.seqK ?_
   refine Mir.region fun e h => ?_
   simp only [↓reduceIte, reduceCtorEq, nA, nS, nM, nE, nL, nT, nB, iT, iN, iE, and_self, SR, SV, ag_54, sz_54, encR45Length, encTableLength]
   refine Mir.use (e := e) ?_ h
   refine Mir.ret fun e h => ?_
   cases h
   simp only [↓reduceIte, reduceCtorEq, nA, nE, nL, and_self, and_true, true_and, SL, encR45Length, encTableLength, Tryd.results16, ag_54, sz_54]

def tb_far (a0 : ApiPos) : Option Bool :=
  some ((decide ((mmI true (mmI true a0.X a0.Y) a0.Z) > 10000000)) || (decide ((mmI false (mmI false a0.X a0.Y) a0.Z) < (-10000000))))
theorem tb_far_spec {a0 : ApiPos} {y : Bool} (h : tb_far a0 = some y) : Spec gP 80 [.agg [.d (.int .i64 a0.X), .d (.int .i64 a0.Y), .d (.int .i64 a0.Z)]] (.d (.bool y)) := by
  refine spec_mir Tryd.func80 rfl (by kernel_rfl) (by kernel_rfl) (fun y : Bool => .d (.bool y)) ?_ h
  unfold tb_far
  simp only [List.replicate, List.length, nS, nA, Tryd.ntmps80, SV]
  refine Mir.seqK ?_
  refine Mir.region fun e h => ?_
  simp only [↓reduceIte, reduceCtorEq, nA, nS, nM, nE, nL, nT, nB, iT, iN, iE, and_self, SR, SV]
  refine Mir.use (e := e) ?_ h
  refine Mir.seqK ?_
  refine Mir.region fun e h => ?_
  simp only [↓reduceIte, reduceCtorEq, nA, nS, nM, nE, nL, nT, nB, iT, iN, iE, and_self, SR, SV, fld_24_0, sz_2, ag_2, fld_24_1, fld_24_2]
  refine Mir.use (e := e) ?_ h
  refine Mir.seqK ?_
  refine Mir.region fun e h => ?_
  simp only [↓reduceIte, reduceCtorEq, nA, nS, nM, nE, nL, nT, nB, iT, iN, iE, and_self, SR, SV, fld_24_0, sz_2, ag_2, fld_24_1, fld_24_2]
  refine Mir.use (e := e) ?_ h
  refine Mir.seqK ?_
  refine Mir.joinV [U, U, .d (.bool ((decide ((mmI true (mmI true a0.X a0.Y) a0.Z) > 10000000)) || (decide ((mmI false (mmI false a0.X a0.Y) a0.Z) < (-10000000))))), U, U, U, U, U, U, U, U, U, U, U, U, U, U, U, U, U, U, U, U, U, U] ⟨[[.d (.int .i64 a0.X), .d (.int .i64 a0.Y), .d (.int .i64 a0.Z)]], []⟩ rfl ?_ ?_
  ·refine SWs.region ?_
   rcases Bool.eq_false_or_eq_true (decide ((mmI true (mmI true a0.X a0.Y) a0.Z) > 10000000)) with hb1 | hb1
   ·simp only [↓reduceIte, reduceCtorEq, nA, nS, nM, nE, nL, nT, nB, iT, iN, iE, and_self, SR, SV, SL, Bool.true_and, Bool.false_and, Bool.true_or, Bool.false_or, Bool.or_true, Bool.or_false, Bool.and_true, Bool.and_false, Bool.not_true, Bool.not_false, hb1]
   ·simp only [↓reduceIte, reduceCtorEq, nA, nS, nM, nE, nL, nT, nB, iT, iN, iE, and_self, SR, SV, SL, Bool.true_and, Bool.false_and, Bool.true_or, Bool.false_or, Bool.or_true, Bool.or_false, Bool.and_true, Bool.and_false, Bool.not_true, Bool.not_false, hb1]
  ·refine Mir.toK ?_
   refine Mir.ret fun e h => ?_
   cases h
   simp only [↓reduceIte, reduceCtorEq, nA, nE, nL, and_self, and_true, true_and, SL, Tryd.results80]

def tb_entry (a0 : TableLength) : Option Bool :=
  some ((decide (a0.Number ≥ 1)) && ((decide (a0.Number ≤ 999)) && ((decide (a0.Length ≥ 0)) && (decide (a0.Length ≤ 10000000)))))
theorem tb_entry_spec {a0 : TableLength} {y : Bool} (h : tb_entry a0 = some y) : Spec gP 81 [.agg [.d (.int .i64 a0.Number), .d (.int .i64 a0.Length)]] (.d (.bool y)) := by
  refine spec_mir Tryd.func81 rfl (by kernel_rfl) (by kernel_rfl) (fun y : Bool => .d (.bool y)) ?_ h
  unfold tb_entry
  simp only [List.replicate, List.length, nS, nA, Tryd.ntmps81, SV]
  refine Mir.seqK ?_
  refine Mir.region fun e h => ?_
  simp only [↓reduceIte, reduceCtorEq, nA, nS, nM, nE, nL, nT, nB, iT, iN, iE, and_self, SR, SV]
  refine Mir.use (e := e) ?_ h
  refine Mir.seqK ?_
  refine Mir.joinV [U, U, .d (.bool ((decide (a0.Number ≥ 1)) && ((decide (a0.Number ≤ 999)) && ((decide (a0.Length ≥ 0)) && (decide (a0.Length ≤ 10000000)))))), U, U, U, U, U, U, U, U, U, U, U, U, U, U, U, U, U, U] ⟨[[.d (.int .i64 a0.Number), .d (.int .i64 a0.Length)]], []⟩ rfl ?_ ?_
  ·refine SWs.region ?_
   rcases Bool.eq_false_or_eq_true (decide (a0.Number ≥ 1)) with hb1 | hb1
   ·rcases Bool.eq_false_or_eq_true (decide (a0.Number ≤ 999)) with hb2 | hb2
    ·rcases Bool.eq_false_or_eq_true (decide (a0.Length ≥ 0)) with hb3 | hb3
     ·simp only [↓reduceIte, reduceCtorEq, nA, nS, nM, nE, nL, nT, nB, iT, iN, iE, and_self, SR, SV, SL, Bool.true_and, Bool.false_and, Bool.true_or, Bool.false_or, Bool.or_true, Bool.or_false, Bool.and_true, Bool.and_false, Bool.not_true, Bool.not_false, fld_100_0, sz_2, ag_2, fld_100_1, hb1, hb2, hb3]
     ·simp only [↓reduceIte, reduceCtorEq, nA, nS, nM, nE, nL, nT, nB, iT, iN, iE, and_self, SR, SV, SL, Bool.true_and, Bool.false_and, Bool.true_or, Bool.false_or, Bool.or_true, Bool.or_false, Bool.and_true, Bool.and_false, Bool.not_true, Bool.not_false, fld_100_0, sz_2, ag_2, fld_100_1, hb1, hb2, hb3]
    ·simp only [↓reduceIte, reduceCtorEq, nA, nS, nM, nE, nL, nT, nB, iT, iN, iE, and_self, SR, SV, SL, Bool.true_and, Bool.false_and, Bool.true_or, Bool.false_or, Bool.or_true, Bool.or_false, Bool.and_true, Bool.and_false, Bool.not_true, Bool.not_false, fld_100_0, sz_2, ag_2, hb1, hb2]
   ·simp only [↓reduceIte, reduceCtorEq, nA, nS, nM, nE, nL, nT, nB, iT, iN, iE, and_self, SR, SV, SL, Bool.true_and, Bool.false_and, Bool.true_or, Bool.false_or, Bool.or_true, Bool.or_false, Bool.and_true, Bool.and_false, Bool.not_true, Bool.not_false, fld_100_0, sz_2, ag_2, hb1]
  ·refine Mir.toK ?_
   refine Mir.ret fun e h => ?_
   cases h
   simp only [↓reduceIte, reduceCtorEq, nA, nE, nL, and_self, and_true, true_and, SL, Tryd.results81]

def tb_Valid (a0 : TableTable) : Option Int :=
  bindO (bindO (bindX (bindO (tb_far a0.Work.e0) fun (y168 : Bool) =>
              if y168 = true then
                some (.ret 0)
              else
                bindO (tb_far a0.Work.e1) fun (y170 : Bool) =>
                if y170 = true then
                  some (.ret 1)
                else
                  bindO (tb_far a0.Work.e2) fun (y172 : Bool) =>
                  if y172 = true then
                    some (.ret 2)
                  else
                    bindO (tb_far a0.Work.e3) fun (y174 : Bool) =>
                    if y174 = true then
                      some (.ret 3)
                    else
                      bindO (tb_far a0.Work.e4) fun (y176 : Bool) =>
                      if y176 = true then
                        some (.ret 4)
                      else
                        bindO (tb_far a0.Work.e5) fun (y178 : Bool) =>
                        if y178 = true then
                          some (.ret 5)
                        else
                          some (.go ())) fun (v166 : Unit) =>
          some (-1)) fun (v153 : Int) =>
      some (decide (v153 ≥ 0))) fun (v127 : Bool) =>
  if v127 = true then
    some 1
  else
    bindX (guardO (okIdx a0.Lengths) (
        rangeX (fun (i243 : Nat) (e245 : TableLength) (v244 : Unit) =>
          bindO (bindO (tb_entry e245) fun (y249 : Bool) =>
              if y249 = true then
                if (decide ((i243 : Int) > 0)) = true then
                  bindO (gt a0.Lengths (IntKind.i64.wrap ((i243 : Int) - 1))) fun (e250 : TableLength) =>
                  some (decide (e250.Number ≥ e245.Number))
                else
                  some false
              else
                some true) fun (v251 : Bool) =>
          if v251 = true then
            some (.ret (.ret 1))
          else
            some (.go ())) (fun (v244 : Unit) => some (.go ())) a0.Lengths 0 ())) fun (v215 : Unit) =>
    some 0
set_option maxHeartbeats 8000000 in
theorem tb_Valid_spec {a0 : TableTable} {y : Int} (h : tb_Valid a0 = some y) : Spec gP 64 [.agg [.d (.int .i64 a0.Work.e0.X), .d (.int .i64 a0.Work.e0.Y), .d (.int .i64 a0.Work.e0.Z), .d (.int .i64 a0.Work.e1.X), .d (.int .i64 a0.Work.e1.Y), .d (.int .i64 a0.Work.e1.Z), .d (.int .i64 a0.Work.e2.X), .d (.int .i64 a0.Work.e2.Y), .d (.int .i64 a0.Work.e2.Z), .d (.int .i64 a0.Work.e3.X), .d (.int .i64 a0.Work.e3.Y), .d (.int .i64 a0.Work.e3.Z), .d (.int .i64 a0.Work.e4.X), .d (.int .i64 a0.Work.e4.Y), .d (.int .i64 a0.Work.e4.Z), .d (.int .i64 a0.Work.e5.X), .d (.int .i64 a0.Work.e5.Y), .d (.int .i64 a0.Work.e5.Z), .d (.list (List.map encTableLength a0.Lengths))]] (.d (.int .i64 y)) := by
  refine spec_mir Tryd.func64 rfl (by kernel_rfl) (by kernel_rfl) (fun y : Int => .d (.int .i64 y)) ?_ h
  unfold tb_Valid
  simp only [List.replicate, List.length, nS, nA, Tryd.ntmps64, SV]
  refine Mir.seqK ?_
  refine Mir.region fun e h => ?_
  simp only [↓reduceIte, reduceCtorEq, nA, nS, nM, nE, nL, nT, nB, iT, iN, iE, and_self, SR, SV, encTableLength]
  refine Mir.use (e := e) ?_ h
  refine Mir.seqK ?_
  refine Mir.seqK ?_
  refine Mir.bind fun v127 hv62 => ?_
  refine Mir.region fun e h => ?_
  simp only [↓reduceIte, reduceCtorEq, nA, nS, nM, nE, nL, nT, nB, iT, iN, iE, and_self, SR, SV, fld_54_0, sz_25, und_25, sz_24, encTableLength]
  refine SpecS.inl Tryd.func79 rfl (by kernel_rfl) (by kernel_rfl) (fun v127 : Bool => .d (.bool v127)) (fun v127 : Bool => ⟨[[.d (.int .i64 a0.Work.e0.X), .d (.int .i64 a0.Work.e0.Y), .d (.int .i64 a0.Work.e0.Z), .d (.int .i64 a0.Work.e1.X), .d (.int .i64 a0.Work.e1.Y), .d (.int .i64 a0.Work.e1.Z), .d (.int .i64 a0.Work.e2.X), .d (.int .i64 a0.Work.e2.Y), .d (.int .i64 a0.Work.e2.Z), .d (.int .i64 a0.Work.e3.X), .d (.int .i64 a0.Work.e3.Y), .d (.int .i64 a0.Work.e3.Z), .d (.int .i64 a0.Work.e4.X), .d (.int .i64 a0.Work.e4.Y), .d (.int .i64 a0.Work.e4.Z), .d (.int .i64 a0.Work.e5.X), .d (.int .i64 a0.Work.e5.Y), .d (.int .i64 a0.Work.e5.Z), .d (.list (List.map encTableLength a0.Lengths))]], []⟩) hv62 rfl ?_ ?_
  ·simp only [List.replicate, List.length, nS, nA, Tryd.ntmps79, SV]
   refine Mir.seqK ?_
   refine Mir.region fun e h => ?_
   simp only [↓reduceIte, reduceCtorEq, nA, nS, nM, nE, nL, nT, nB, iT, iN, iE, and_self, SR, SV, encTableLength]
   refine Mir.use (e := e) ?_ h
   refine Mir.seqK ?_
   refine Mir.bind fun v153 hv123 => ?_
   refine Mir.region fun e h => ?_
   simp only [↓reduceIte, reduceCtorEq, nA, nS, nM, nE, nL, nT, nB, iT, iN, iE, and_self, SR, SV, encTableLength]
   refine SpecS.inl Tryd.func93 rfl (by kernel_rfl) (by kernel_rfl) (fun v153 : Int => .d (.int .i64 v153)) (fun v153 : Int => ⟨[[.d (.int .i64 a0.Work.e0.X), .d (.int .i64 a0.Work.e0.Y), .d (.int .i64 a0.Work.e0.Z), .d (.int .i64 a0.Work.e1.X), .d (.int .i64 a0.Work.e1.Y), .d (.int .i64 a0.Work.e1.Z), .d (.int .i64 a0.Work.e2.X), .d (.int .i64 a0.Work.e2.Y), .d (.int .i64 a0.Work.e2.Z), .d (.int .i64 a0.Work.e3.X), .d (.int .i64 a0.Work.e3.Y), .d (.int .i64 a0.Work.e3.Z), .d (.int .i64 a0.Work.e4.X), .d (.int .i64 a0.Work.e4.Y), .d (.int .i64 a0.Work.e4.Z), .d (.int .i64 a0.Work.e5.X), .d (.int .i64 a0.Work.e5.Y), .d (.int .i64 a0.Work.e5.Z), .d (.list (List.map encTableLength a0.Lengths))]], []⟩) hv123 rfl ?_ ?_
   ·simp only [List.replicate, List.length, nS, nA, Tryd.ntmps93, SV]
    refine Mir.seqK ?_
    refine Mir.region fun e h => ?_
    simp only [↓reduceIte, reduceCtorEq, nA, nS, nM, nE, nL, nT, nB, iT, iN, iE, and_self, SR, SV, encTableLength]
    refine Mir.use (e := e) ?_ h
    refine Mir.seqK ?_
    refine Mir.seqK ?_
    refine Mir.region fun e h => ?_
    simp only [↓reduceIte, reduceCtorEq, nA, nS, nM, nE, nL, nT, nB, iT, iN, iE, and_self, SR, SV, und_136, (nr rfl : ((6 : Nat) : Int) = 6), encTableLength]
    refine Mir.use (e := e) ?_ h
    refine Mir.join (fun v166 : Unit => [U, U, U, U, U, U, U, U, U, U, U, U, U, U, U, U, U, U, U]) (fun v166 : Unit => ⟨[[.d (.int .i64 a0.Work.e0.X), .d (.int .i64 a0.Work.e0.Y), .d (.int .i64 a0.Work.e0.Z), .d (.int .i64 a0.Work.e1.X), .d (.int .i64 a0.Work.e1.Y), .d (.int .i64 a0.Work.e1.Z), .d (.int .i64 a0.Work.e2.X), .d (.int .i64 a0.Work.e2.Y), .d (.int .i64 a0.Work.e2.Z), .d (.int .i64 a0.Work.e3.X), .d (.int .i64 a0.Work.e3.Y), .d (.int .i64 a0.Work.e3.Z), .d (.int .i64 a0.Work.e4.X), .d (.int .i64 a0.Work.e4.Y), .d (.int .i64 a0.Work.e4.Z), .d (.int .i64 a0.Work.e5.X), .d (.int .i64 a0.Work.e5.Y), .d (.int .i64 a0.Work.e5.Z), .d (.list (List.map encTableLength a0.Lengths))]], []⟩) (fun _ => rfl) ?_ ?_
    ·refine Mir.block ?_
     refine Mir.loopR 15 ?_
     refine Mir.seqK ?_
     refine Mir.region fun e h => ?_
     simp only [↓reduceIte, reduceCtorEq, nA, nS, nM, nE, nL, nT, nB, iT, iN, iE, and_self, SR, SV, encTableLength]
     refine Mir.use (e := e) ?_ h
     refine Mir.seqK ?_
     refine Mir.condT rfl ?_
     refine Mir.skip ?_
     refine Mir.toK ?_
     refine Mir.seqK ?_
     refine Mir.block ?_
     refine Mir.seqK ?_
     refine Mir.region fun e h => ?_
     simp only [↓reduceIte, reduceCtorEq, nA, nS, nM, nE, nL, nT, nB, iT, iN, iE, and_self, SR, SV, encTableLength]
     refine Mir.use (e := e) ?_ h
     refine Mir.seqK ?_
     refine Mir.bind fun y168 hy156 => ?_
     refine Mir.region fun e h => ?_
     simp only [↓reduceIte, reduceCtorEq, nA, nS, nM, nE, nL, nT, nB, iT, iN, iE, and_self, SR, SV, und_136, sz_24, ag_24, encTableLength]
     refine SpecS.by (tb_far_spec hy156) (by simp only [↓reduceIte, reduceCtorEq, nA, nE, nL, and_self, and_true, true_and, SL, encTableLength]) ?_
     simp only [↓reduceIte, reduceCtorEq, nA, nS, nM, nE, nL, nT, nB, iT, iN, iE, and_self, SR, SV, encTableLength]
     refine Mir.use (e := e) ?_ h
     refine Mir.cond rfl (fun hb158 => ?_) (fun hb158 => ?_)
     ·refine Mir.seqK ?_
      refine Mir.region fun e h => ?_
      simp only [↓reduceIte, reduceCtorEq, nA, nS, nM, nE, nL, nT, nB, iT, iN, iE, and_self, SR, SV, encTableLength]
      refine Mir.use (e := e) ?_ h
      refine Mir.ret fun e h => ?_
      cases h
      simp only [↓reduceIte, reduceCtorEq, nA, nE, nL, and_self, and_true, true_and, SL, encTableLength, Tryd.results93]
     ·refine Mir.skip ?_
      refine Mir.toB ?_
      refine Mir.toK ?_
      refine Mir.region fun e h => ?_
      simp only [↓reduceIte, reduceCtorEq, nA, nS, nM, nE, nL, nT, nB, iT, iN, iE, and_self, SR, SV, (nr rfl : IntKind.i64.wrap (0 + 1) = 1), encTableLength]
      refine Mir.useN (e := e) ?_ h
      refine Mir.seqK ?_
      refine Mir.region fun e h => ?_
      simp only [↓reduceIte, reduceCtorEq, nA, nS, nM, nE, nL, nT, nB, iT, iN, iE, and_self, SR, SV, encTableLength]
      refine Mir.use (e := e) ?_ h
      refine Mir.seqK ?_
      refine Mir.condT rfl ?_
      refine Mir.skip ?_
      refine Mir.toK ?_
      refine Mir.seqK ?_
      refine Mir.block ?_
      refine Mir.seqK ?_
      refine Mir.region fun e h => ?_
      simp only [↓reduceIte, reduceCtorEq, nA, nS, nM, nE, nL, nT, nB, iT, iN, iE, and_self, SR, SV, encTableLength]
      refine Mir.use (e := e) ?_ h
      refine Mir.seqK ?_
      refine Mir.bind fun y170 hy161 => ?_
      refine Mir.region fun e h => ?_
      simp only [↓reduceIte, reduceCtorEq, nA, nS, nM, nE, nL, nT, nB, iT, iN, iE, and_self, SR, SV, und_136, sz_24, ag_24, encTableLength]
      refine SpecS.by (tb_far_spec hy161) (by simp only [↓reduceIte, reduceCtorEq, nA, nE, nL, and_self, and_true, true_and, SL, encTableLength]) ?_
      simp only [↓reduceIte, reduceCtorEq, nA, nS, nM, nE, nL, nT, nB, iT, iN, iE, and_self, SR, SV, encTableLength]
      refine Mir.use (e := e) ?_ h
      refine Mir.cond rfl (fun hb163 => ?_) (fun hb163 => ?_)
      ·refine Mir.seqK ?_
       refine Mir.region fun e h => ?_
       simp only [↓reduceIte, reduceCtorEq, nA, nS, nM, nE, nL, nT, nB, iT, iN, iE, and_self, SR, SV, encTableLength]
       refine Mir.use (e := e) ?_ h
       refine Mir.ret fun e h => ?_
       cases h
       simp only [↓reduceIte, reduceCtorEq, nA, nE, nL, and_self, and_true, true_and, SL, encTableLength, Tryd.results93]
      ·refine Mir.skip ?_
       refine Mir.toB ?_
       refine Mir.toK ?_
       refine Mir.region fun e h => ?_
       simp only [↓reduceIte, reduceCtorEq, nA, nS, nM, nE, nL, nT, nB, iT, iN, iE, and_self, SR, SV, (nr rfl : IntKind.i64.wrap (1 + 1) = 2), encTableLength]
       refine Mir.useN (e := e) ?_ h
       refine Mir.seqK ?_
       refine Mir.region fun e h => ?_
       simp only [↓reduceIte, reduceCtorEq, nA, nS, nM, nE, nL, nT, nB, iT, iN, iE, and_self, SR, SV, encTableLength]
       refine Mir.use (e := e) ?_ h
       refine Mir.seqK ?_
       refine Mir.condT rfl ?_
       refine Mir.skip ?_
       refine Mir.toK ?_
       refine Mir.seqK ?_
       refine Mir.block ?_
       refine Mir.seqK ?_
       refine Mir.region fun e h => ?_
       simp only [↓reduceIte, reduceCtorEq, nA, nS, nM, nE, nL, nT, nB, iT, iN, iE, and_self, SR, SV, encTableLength]
       refine Mir.use (e := e) ?_ h
       refine Mir.seqK ?_
       refine Mir.bind fun y172 hy166 => ?_
       refine Mir.region fun e h => ?_
       simp only [↓reduceIte, reduceCtorEq, nA, nS, nM, nE, nL, nT, nB, iT, iN, iE, and_self, SR, SV, und_136, sz_24, ag_24, encTableLength]
       refine SpecS.by (tb_far_spec hy166) (by simp only [↓reduceIte, reduceCtorEq, nA, nE, nL, and_self, and_true, true_and, SL, encTableLength]) ?_
       simp only [↓reduceIte, reduceCtorEq, nA, nS, nM, nE, nL, nT, nB, iT, iN, iE, and_self, SR, SV, encTableLength]
       refine Mir.use (e := e) ?_ h
       refine Mir.cond rfl (fun hb168 => ?_) (fun hb168 => ?_)
       ·refine Mir.seqK ?_
        refine Mir.region fun e h => ?_
        simp only [↓reduceIte, reduceCtorEq, nA, nS, nM, nE, nL, nT, nB, iT, iN, iE, and_self, SR, SV, encTableLength]
        refine Mir.use (e := e) ?_ h
        refine Mir.ret fun e h => ?_
        cases h
        simp only [↓reduceIte, reduceCtorEq, nA, nE, nL, and_self, and_true, true_and, SL, encTableLength, Tryd.results93]
       ·refine Mir.skip ?_
        refine Mir.toB ?_
        refine Mir.toK ?_
        refine Mir.region fun e h => ?_
        simp only [↓reduceIte, reduceCtorEq, nA, nS, nM, nE, nL, nT, nB, iT, iN, iE, and_self, SR, SV, (nr rfl : IntKind.i64.wrap (2 + 1) = 3), encTableLength]
        refine Mir.useN (e := e) ?_ h
        refine Mir.seqK ?_
        refine Mir.region fun e h => ?_
        simp only [↓reduceIte, reduceCtorEq, nA, nS, nM, nE, nL, nT, nB, iT, iN, iE, and_self, SR, SV, encTableLength]
        refine Mir.use (e := e) ?_ h
        refine Mir.seqK ?_
        refine Mir.condT rfl ?_
        refine Mir.skip ?_
        refine Mir.toK ?_
        refine Mir.seqK ?_
        refine Mir.block ?_
        refine Mir.seqK ?_
        refine Mir.region fun e h => ?_
        simp only [↓reduceIte, reduceCtorEq, nA, nS, nM, nE, nL, nT, nB, iT, iN, iE, and_self, SR, SV, encTableLength]
        refine Mir.use (e := e) ?_ h
        refine Mir.seqK ?_
        refine Mir.bind fun y174 hy171 => ?_
        refine Mir.region fun e h => ?_
        simp only [↓reduceIte, reduceCtorEq, nA, nS, nM, nE, nL, nT, nB, iT, iN, iE, and_self, SR, SV, und_136, sz_24, ag_24, encTableLength]
        refine SpecS.by (tb_far_spec hy171) (by simp only [↓reduceIte, reduceCtorEq, nA, nE, nL, and_self, and_true, true_and, SL, encTableLength]) ?_
        simp only [↓reduceIte, reduceCtorEq, nA, nS, nM, nE, nL, nT, nB, iT, iN, iE, and_self, SR, SV, encTableLength]
        refine Mir.use (e := e) ?_ h
        refine Mir.cond rfl (fun hb173 => ?_) (fun hb173 => ?_)
        ·refine Mir.seqK ?_
         refine Mir.region fun e h => ?_
         simp only [↓reduceIte, reduceCtorEq, nA, nS, nM, nE, nL, nT, nB, iT, iN, iE, and_self, SR, SV, encTableLength]
         refine Mir.use (e := e) ?_ h
         refine Mir.ret fun e h => ?_
         cases h
         simp only [↓reduceIte, reduceCtorEq, nA, nE, nL, and_self, and_true, true_and, SL, encTableLength, Tryd.results93]
        ·refine Mir.skip ?_
         refine Mir.toB ?_
         refine Mir.toK ?_
         refine Mir.region fun e h => ?_
         simp only [↓reduceIte, reduceCtorEq, nA, nS, nM, nE, nL, nT, nB, iT, iN, iE, and_self, SR, SV, (nr rfl : IntKind.i64.wrap (3 + 1) = 4), encTableLength]
         refine Mir.useN (e := e) ?_ h
         refine Mir.seqK ?_
         refine Mir.region fun e h => ?_
         simp only [↓reduceIte, reduceCtorEq, nA, nS, nM, nE, nL, nT, nB, iT, iN, iE, and_self, SR, SV, encTableLength]
         refine Mir.use (e := e) ?_ h
         refine Mir.seqK ?_
         refine Mir.condT rfl ?_
         refine Mir.skip ?_
         refine Mir.toK ?_
         refine Mir.seqK ?_
         refine Mir.block ?_
         refine Mir.seqK ?_
         refine Mir.region fun e h => ?_
         simp only [↓reduceIte, reduceCtorEq, nA, nS, nM, nE, nL, nT, nB, iT, iN, iE, and_self, SR, SV, encTableLength]
         refine Mir.use (e := e) ?_ h
         refine Mir.seqK ?_
         refine Mir.bind fun y176 hy176 => ?_
         refine Mir.region fun e h => ?_
         simp only [↓reduceIte, reduceCtorEq, nA, nS, nM, nE, nL, nT, nB, iT, iN, iE, and_self, SR, SV, und_136, sz_24, ag_24, encTableLength]
         refine SpecS.by (tb_far_spec hy176) (by simp only [↓reduceIte, reduceCtorEq, nA, nE, nL, and_self, and_true, true_and, SL, encTableLength]) ?_
         simp only [↓reduceIte, reduceCtorEq, nA, nS, nM, nE, nL, nT, nB, iT, iN, iE, and_self, SR, SV, encTableLength]
         refine Mir.use (e := e) ?_ h
         refine Mir.cond rfl (fun hb178 => ?_) (fun hb178 => ?_)
         ·refine Mir.seqK ?_
          refine Mir.region fun e h => ?_
          simp only [↓reduceIte, reduceCtorEq, nA, nS, nM, nE, nL, nT, nB, iT, iN, iE, and_self, SR, SV, encTableLength]
          refine Mir.use (e := e) ?_ h
          refine Mir.ret fun e h => ?_
          cases h
          simp only [↓reduceIte, reduceCtorEq, nA, nE, nL, and_self, and_true, true_and, SL, encTableLength, Tryd.results93]
         ·refine Mir.skip ?_
          refine Mir.toB ?_
          refine Mir.toK ?_
          refine Mir.region fun e h => ?_
          simp only [↓reduceIte, reduceCtorEq, nA, nS, nM, nE, nL, nT, nB, iT, iN, iE, and_self, SR, SV, (nr rfl : IntKind.i64.wrap (4 + 1) = 5), encTableLength]
          refine Mir.useN (e := e) ?_ h
          refine Mir.seqK ?_
          refine Mir.region fun e h => ?_
          simp only [↓reduceIte, reduceCtorEq, nA, nS, nM, nE, nL, nT, nB, iT, iN, iE, and_self, SR, SV, encTableLength]
          refine Mir.use (e := e) ?_ h
          refine Mir.seqK ?_
          refine Mir.condT rfl ?_
          refine Mir.skip ?_
          refine Mir.toK ?_
          refine Mir.seqK ?_
          refine Mir.block ?_
          refine Mir.seqK ?_
          refine Mir.region fun e h => ?_
          simp only [↓reduceIte, reduceCtorEq, nA, nS, nM, nE, nL, nT, nB, iT, iN, iE, and_self, SR, SV, encTableLength]
          refine Mir.use (e := e) ?_ h
          refine Mir.seqK ?_
          refine Mir.bind fun y178 hy181 => ?_
          refine Mir.region fun e h => ?_
          simp only [↓reduceIte, reduceCtorEq, nA, nS, nM, nE, nL, nT, nB, iT, iN, iE, and_self, SR, SV, und_136, sz_24, ag_24, encTableLength]
          refine SpecS.by (tb_far_spec hy181) (by simp only [↓reduceIte, reduceCtorEq, nA, nE, nL, and_self, and_true, true_and, SL, encTableLength]) ?_
          simp only [↓reduceIte, reduceCtorEq, nA, nS, nM, nE, nL, nT, nB, iT, iN, iE, and_self, SR, SV, encTableLength]
          refine Mir.use (e := e) ?_ h
          refine Mir.cond rfl (fun hb183 => ?_) (fun hb183 => ?_)
          ·refine Mir.seqK ?_
           refine Mir.region fun e h => ?_
           simp only [↓reduceIte, reduceCtorEq, nA, nS, nM, nE, nL, nT, nB, iT, iN, iE, and_self, SR, SV, encTableLength]
           refine Mir.use (e := e) ?_ h
           refine Mir.ret fun e h => ?_
           cases h
           simp only [↓reduceIte, reduceCtorEq, nA, nE, nL, and_self, and_true, true_and, SL, encTableLength, Tryd.results93]
          ·refine Mir.skip ?_
           refine Mir.toB ?_
           refine Mir.toK ?_
           refine Mir.region fun e h => ?_
           simp only [↓reduceIte, reduceCtorEq, nA, nS, nM, nE, nL, nT, nB, iT, iN, iE, and_self, SR, SV, (nr rfl : IntKind.i64.wrap (5 + 1) = 6), encTableLength]
           refine Mir.useN (e := e) ?_ h
           refine Mir.seqK ?_
           refine Mir.region fun e h => ?_
           simp only [↓reduceIte, reduceCtorEq, nA, nS, nM, nE, nL, nT, nB, iT, iN, iE, and_self, SR, SV, encTableLength]
           refine Mir.use (e := e) ?_ h
           refine Mir.seqK ?_
           refine Mir.condF rfl ?_
           refine Mir.exit fun e h => ?_
           cases h
           simp only [↓reduceIte, reduceCtorEq, nA, nE, nL, and_self, and_true, true_and, SL, encTableLength, Tryd.results93]
    ·intro v166
     refine Mir.toK ?_
     refine Mir.seqK ?_
     refine Mir.region fun e h => ?_
     simp only [↓reduceIte, reduceCtorEq, nA, nS, nM, nE, nL, nT, nB, iT, iN, iE, and_self, SR, SV, encTableLength]
     refine Mir.use (e := e) ?_ h
     refine Mir.ret fun e h => ?_
     cases h
     simp only [↓reduceIte, reduceCtorEq, nA, nE, nL, and_self, and_true, true_and, SL, encTableLength, Tryd.results93]
   simp only [↓reduceIte, reduceCtorEq, nA, nS, nM, nE, nL, nT, nB, iT, iN, iE, and_self, SR, SV, encTableLength]
   refine Mir.use (e := e) ?_ h
   refine Mir.ret fun e h => ?_
   cases h
   simp only [↓reduceIte, reduceCtorEq, nA, nE, nL, and_self, and_true, true_and, SL, encTableLength, Tryd.results79]
  simp only [↓reduceIte, reduceCtorEq, nA, nS, nM, nE, nL, nT, nB, iT, iN, iE, and_self, SR, SV, encTableLength]
  refine Mir.use (e := e) ?_ h
  refine Mir.cond rfl (fun hb185 => ?_) (fun hb185 => ?_)
  ·refine Mir.seqK ?_
   refine Mir.region fun e h => ?_
   simp only [↓reduceIte, reduceCtorEq, nA, nS, nM, nE, nL, nT, nB, iT, iN, iE, and_self, SR, SV, encTableLength]
   refine Mir.use (e := e) ?_ h
   refine Mir.ret fun e h => ?_
   cases h
   simp only [↓reduceIte, reduceCtorEq, nA, nE, nL, and_self, and_true, true_and, SL, encTableLength, Tryd.results64]
  ·refine Mir.skip ?_
   refine Mir.toK ?_
   refine Mir.seqK ?_
   refine Mir.seqK ?_
   refine Mir.region fun e h => ?_
   simp only [↓reduceIte, reduceCtorEq, nA, nS, nM, nE, nL, nT, nB, iT, iN, iE, and_self, SR, SV, fld_54_1, sz_52, ag_52, und_52, encTableLength]
   refine Mir.use (e := e) ?_ h
   refine Mir.join (fun v215 : Unit => [U, U, U, U, U, U, U, U, U, U, U, U, U, U, U, U, U, U, U, U, U, U, U, U, U, U, U, U, U, U, U, U, U, U, U, U]) (fun v215 : Unit => ⟨[[.d (.int .i64 a0.Work.e0.X), .d (.int .i64 a0.Work.e0.Y), .d (.int .i64 a0.Work.e0.Z), .d (.int .i64 a0.Work.e1.X), .d (.int .i64 a0.Work.e1.Y), .d (.int .i64 a0.Work.e1.Z), .d (.int .i64 a0.Work.e2.X), .d (.int .i64 a0.Work.e2.Y), .d (.int .i64 a0.Work.e2.Z), .d (.int .i64 a0.Work.e3.X), .d (.int .i64 a0.Work.e3.Y), .d (.int .i64 a0.Work.e3.Z), .d (.int .i64 a0.Work.e4.X), .d (.int .i64 a0.Work.e4.Y), .d (.int .i64 a0.Work.e4.Z), .d (.int .i64 a0.Work.e5.X), .d (.int .i64 a0.Work.e5.Y), .d (.int .i64 a0.Work.e5.Z), .d (.list (List.map encTableLength a0.Lengths))]], []⟩) (fun _ => rfl) ?_ ?_
   ·refine Mir.block ?_
    refine Mir.guard fun qg284 => ?_
    refine Mir.range (fun (i243 : Nat) (v244 : Unit) => [U, .ptr 0 0, U, U, U, U, U, U, U, .d (.list (List.map encTableLength a0.Lengths)), .d (.int .i64 (a0.Lengths.length : Int)), .d (.int .i64 (i243 : Int)), U, U, U, U, U, U, U, U, U, U, U, U, U, U, U, U, U, U, U, U, U, U, U, U]) (fun (i243 : Nat) (v244 : Unit) => ⟨[[.d (.int .i64 a0.Work.e0.X), .d (.int .i64 a0.Work.e0.Y), .d (.int .i64 a0.Work.e0.Z), .d (.int .i64 a0.Work.e1.X), .d (.int .i64 a0.Work.e1.Y), .d (.int .i64 a0.Work.e1.Z), .d (.int .i64 a0.Work.e2.X), .d (.int .i64 a0.Work.e2.Y), .d (.int .i64 a0.Work.e2.Z), .d (.int .i64 a0.Work.e3.X), .d (.int .i64 a0.Work.e3.Y), .d (.int .i64 a0.Work.e3.Z), .d (.int .i64 a0.Work.e4.X), .d (.int .i64 a0.Work.e4.Y), .d (.int .i64 a0.Work.e4.Z), .d (.int .i64 a0.Work.e5.X), .d (.int .i64 a0.Work.e5.Y), .d (.int .i64 a0.Work.e5.Z), .d (.list (List.map encTableLength a0.Lengths))]], []⟩) qg284 (fun _ _ => rfl) (by simp only [↓reduceIte, reduceCtorEq, nA, nE, nL, and_self, and_true, true_and, SL, encTableLength, (nr rfl : ((0 : Nat) : Int) = 0)]) (by simp only [↓reduceIte, reduceCtorEq, nA, nE, nL, and_self, and_true, true_and, SL, encTableLength, (nr rfl : ((0 : Nat) : Int) = 0)]) ?_ ?_
    ·intro i243 e245 v244 qr282
     refine Mir.seqK ?_
     refine Mir.region fun e h => ?_
     simp only [↓reduceIte, reduceCtorEq, nA, nS, nM, nE, nL, nT, nB, iT, iN, iE, and_self, SR, SV, qr282, encTableLength]
     refine Mir.use (e := e) ?_ h
     refine Mir.seqK ?_
     refine Mir.condT rfl ?_
     refine Mir.skip ?_
     refine Mir.toK ?_
     refine Mir.seqK ?_
     refine Mir.block ?_
     refine Mir.seqK ?_
     refine Mir.region fun e h => ?_
     simp only [↓reduceIte, reduceCtorEq, nA, nS, nM, nE, nL, nT, nB, iT, iN, iE, and_self, SR, SV, und_52, sz_100, qr282, Int.toNat_natCast, ag_100, zero_100, encTableLength]
     refine Mir.use (e := e) ?_ h
     refine Mir.seqK ?_
     refine Mir.joinO (fun v251 : Bool => [U, .ptr 0 0, U, U, U, U, U, U, U, .d (.list (List.map encTableLength a0.Lengths)), .d (.int .i64 (a0.Lengths.length : Int)), .d (.int .i64 (i243 : Int)), U, U, U, U, U, U, U, U, U, U, U, U, U, U, U, U, U, U, U, U, U, U, .d (.bool v251), U]) (fun v251 : Bool => ⟨[[.d (.int .i64 a0.Work.e0.X), .d (.int .i64 a0.Work.e0.Y), .d (.int .i64 a0.Work.e0.Z), .d (.int .i64 a0.Work.e1.X), .d (.int .i64 a0.Work.e1.Y), .d (.int .i64 a0.Work.e1.Z), .d (.int .i64 a0.Work.e2.X), .d (.int .i64 a0.Work.e2.Y), .d (.int .i64 a0.Work.e2.Z), .d (.int .i64 a0.Work.e3.X), .d (.int .i64 a0.Work.e3.Y), .d (.int .i64 a0.Work.e3.Z), .d (.int .i64 a0.Work.e4.X), .d (.int .i64 a0.Work.e4.Y), .d (.int .i64 a0.Work.e4.Z), .d (.int .i64 a0.Work.e5.X), .d (.int .i64 a0.Work.e5.Y), .d (.int .i64 a0.Work.e5.Z), .d (.list (List.map encTableLength a0.Lengths))], [.d (.int .i64 e245.Number), .d (.int .i64 e245.Length)]], []⟩) (fun _ => rfl) ?_ ?_
     ·refine Mir.bind fun y249 hy290 => ?_
      refine Mir.ite (fun hb291 => ?_) (fun hb291 => ?_)
      ·refine Mir.ite (fun hb292 => ?_) (fun hb292 => ?_)
       ·refine Mir.bind fun e250 q293 => ?_
        replace q293 := gt_ok q293
        refine Mir.regionD [] (by kernel_rfl) fun e h => ?_
        simp only [↓reduceIte, reduceCtorEq, nA, nS, nM, nE, nL, nT, nB, iT, iN, iE, and_self, SR, SV, sepL_nil, sepL_cons, sepV_ne, sepV_d, sepV_i, true_and, Bool.and_self, ag_100, sz_100, encTableLength, hb291, hb292]
        refine Spec.by (tb_entry_spec hy290) (by simp only [↓reduceIte, reduceCtorEq, nA, nE, nL, and_self, and_true, true_and, SL, encTableLength, hb291, hb292]) ?_
        simp only [↓reduceIte, reduceCtorEq, nA, nS, nM, nE, nL, nT, nB, iT, iN, iE, and_self, SR, SV, sepL_nil, sepL_cons, sepV_ne, sepV_d, sepV_i, true_and, Bool.and_self, fld_54_1, sz_52, ag_52, und_52, sz_100, q293, fld_100_0, sz_2, ag_2, encTableLength, hb291, hb292]
        cases h
        simp only [↓reduceIte, reduceCtorEq, nA, nE, nL, and_self, and_true, true_and, SL, encTableLength, hb291, hb292]
       ·refine Mir.regionD [] (by kernel_rfl) fun e h => ?_
        simp only [↓reduceIte, reduceCtorEq, nA, nS, nM, nE, nL, nT, nB, iT, iN, iE, and_self, SR, SV, sepL_nil, sepL_cons, sepV_ne, sepV_d, sepV_i, true_and, Bool.and_self, ag_100, sz_100, encTableLength, hb291, hb292]
        refine Spec.by (tb_entry_spec hy290) (by simp only [↓reduceIte, reduceCtorEq, nA, nE, nL, and_self, and_true, true_and, SL, encTableLength, hb291, hb292]) ?_
        simp only [↓reduceIte, reduceCtorEq, nA, nS, nM, nE, nL, nT, nB, iT, iN, iE, and_self, SR, SV, sepL_nil, sepL_cons, sepV_ne, sepV_d, sepV_i, true_and, Bool.and_self, encTableLength, hb291, hb292]
        cases h
        simp only [↓reduceIte, reduceCtorEq, nA, nE, nL, and_self, and_true, true_and, SL, encTableLength, hb291, hb292]
      ·refine Mir.regionD [] (by kernel_rfl) fun e h => ?_
       simp only [↓reduceIte, reduceCtorEq, nA, nS, nM, nE, nL, nT, nB, iT, iN, iE, and_self, SR, SV, sepL_nil, sepL_cons, sepV_ne, sepV_d, sepV_i, true_and, Bool.and_self, ag_100, sz_100, encTableLength, hb291]
       refine Spec.by (tb_entry_spec hy290) (by simp only [↓reduceIte, reduceCtorEq, nA, nE, nL, and_self, and_true, true_and, SL, encTableLength, hb291]) ?_
       simp only [↓reduceIte, reduceCtorEq, nA, nS, nM, nE, nL, nT, nB, iT, iN, iE, and_self, SR, SV, sepL_nil, sepL_cons, sepV_ne, sepV_d, sepV_i, true_and, Bool.and_self, encTableLength, hb291]
       cases h
       simp only [↓reduceIte, reduceCtorEq, nA, nE, nL, and_self, and_true, true_and, SL, encTableLength, hb291]
     ·intro v251
      refine Mir.toK ?_
      refine Mir.cond rfl (fun hb295 => ?_) (fun hb295 => ?_)
      ·refine Mir.seqK ?_
       refine Mir.region fun e h => ?_
       simp only [↓reduceIte, reduceCtorEq, nA, nS, nM, nE, nL, nT, nB, iT, iN, iE, and_self, SR, SV, encTableLength]
       refine Mir.use (e := e) ?_ h
       refine Mir.ret fun e h => ?_
       cases h
       simp only [↓reduceIte, reduceCtorEq, nA, nE, nL, and_self, and_true, true_and, SL, encTableLength, Tryd.results64]
      ·refine Mir.skip ?_
       refine Mir.toB ?_
       refine Mir.toK ?_
       refine Mir.region fun e h => ?_
       simp only [↓reduceIte, reduceCtorEq, nA, nS, nM, nE, nL, nT, nB, iT, iN, iE, and_self, SR, SV, encTableLength]
       cases h
       simp only [↓reduceIte, reduceCtorEq, nA, nE, nL, and_self, and_true, true_and, SL, encTableLength, Tryd.results64, qr282]
    ·intro v244 qd283
     refine Mir.seqK ?_
     refine Mir.region fun e h => ?_
     simp only [↓reduceIte, reduceCtorEq, nA, nS, nM, nE, nL, nT, nB, iT, iN, iE, and_self, SR, SV, qd283, encTableLength]
     refine Mir.use (e := e) ?_ h
     refine Mir.seqK ?_
     refine Mir.condF rfl ?_
     refine Mir.exit fun e h => ?_
     cases h
     simp only [↓reduceIte, reduceCtorEq, nA, nE, nL, and_self, and_true, true_and, SL, encTableLength, Tryd.results64]
   ·intro v215
    refine Mir.toK ?_
    refine Mir.seqK ?_
    refine Mir.region fun e h => ?_
    simp only [↓reduceIte, reduceCtorEq, nA, nS, nM, nE, nL, nT, nB, iT, iN, iE, and_self, SR, SV, encTableLength]
    refine Mir.use (e := e) ?_ h
    refine Mir.ret fun e h => ?_
    cases h
    simp only [↓reduceIte, reduceCtorEq, nA, nE, nL, and_self, and_true, true_and, SL, encTableLength, Tryd.results64]

def inp_inside_c1 (a0 : Int) : Option Bool :=
  some ((decide (a0 < (-10000000))) || (decide (a0 > 10000000)))
theorem inp_inside_c1_spec {a0 : Int} {y : Bool} (h : inp_inside_c1 a0 = some y) : Spec gP 83 [.d (.int .i64 a0)] (.d (.bool y)) := by
  refine spec_mir Tryd.func83 rfl (by kernel_rfl) (by kernel_rfl) (fun y : Bool => .d (.bool y)) ?_ h
  unfold inp_inside_c1
  simp only [List.replicate, List.length, nS, nA, Tryd.ntmps83, SV]
  refine Mir.seqK ?_
  refine Mir.region fun e h => ?_
  simp only [↓reduceIte, reduceCtorEq, nA, nS, nM, nE, nL, nT, nB, iT, iN, iE, and_self, SR, SV]
  refine Mir.use (e := e) ?_ h
  refine Mir.seqK ?_
  refine Mir.joinV [U, U, .d (.bool ((decide (a0 < (-10000000))) || (decide (a0 > 10000000)))), U, U, U, U, U, U] ⟨[], []⟩ rfl ?_ ?_
  ·refine SWs.region ?_
   rcases Bool.eq_false_or_eq_true (decide (a0 < (-10000000))) with hb1 | hb1
   ·simp only [↓reduceIte, reduceCtorEq, nA, nS, nM, nE, nL, nT, nB, iT, iN, iE, and_self, SR, SV, SL, Bool.true_and, Bool.false_and, Bool.true_or, Bool.false_or, Bool.or_true, Bool.or_false, Bool.and_true, Bool.and_false, Bool.not_true, Bool.not_false, hb1]
   ·simp only [↓reduceIte, reduceCtorEq, nA, nS, nM, nE, nL, nT, nB, iT, iN, iE, and_self, SR, SV, SL, Bool.true_and, Bool.false_and, Bool.true_or, Bool.false_or, Bool.or_true, Bool.or_false, Bool.and_true, Bool.and_false, Bool.not_true, Bool.not_false, hb1]
  ·refine Mir.toK ?_
   refine Mir.ret fun e h => ?_
   cases h
   simp only [↓reduceIte, reduceCtorEq, nA, nE, nL, and_self, and_true, true_and, SL, Tryd.results83]

def inp_inside (a0 : ApiPos) : Option Bool :=
  bindO (bindO (bindX (bindO (inp_inside_c1 a0.X) fun (y138 : Bool) =>
              if y138 = true then
                some (.ret 0)
              else
                bindO (inp_inside_c1 a0.Y) fun (y140 : Bool) =>
                if y140 = true then
                  some (.ret 1)
                else
                  bindO (inp_inside_c1 a0.Z) fun (y142 : Bool) =>
                  if y142 = true then
                    some (.ret 2)
                  else
                    some (.go ())) fun (v136 : Unit) =>
          some (-1)) fun (v129 : Int) =>
      some (decide (v129 ≥ 0))) fun (v115 : Bool) =>
  some (!v115)
set_option maxHeartbeats 8000000 in
theorem inp_inside_spec {a0 : ApiPos} {y : Bool} (h : inp_inside a0 = some y) : Spec gP 65 [.agg [.d (.int .i64 a0.X), .d (.int .i64 a0.Y), .d (.int .i64 a0.Z)]] (.d (.bool y)) := by
  refine spec_mir Tryd.func65 rfl (by kernel_rfl) (by kernel_rfl) (fun y : Bool => .d (.bool y)) ?_ h
  unfold inp_inside
  simp only [List.replicate, List.length, nS, nA, Tryd.ntmps65, SV]
  refine Mir.seqK ?_
  refine Mir.region fun e h => ?_
  simp only [↓reduceIte, reduceCtorEq, nA, nS, nM, nE, nL, nT, nB, iT, iN, iE, and_self, SR, SV, eInt]
  refine Mir.use (e := e) ?_ h
  refine Mir.seqK ?_
  refine Mir.bind fun v115 hv32 => ?_
  refine Mir.region fun e h => ?_
  simp only [↓reduceIte, reduceCtorEq, nA, nS, nM, nE, nL, nT, nB, iT, iN, iE, and_self, SR, SV, fld_24_0, sz_2, ag_2, fld_24_1, fld_24_2, und_98, zero_2, (nr rfl : okLen 3 = true), eInt]
  refine SpecS.inl Tryd.func82 rfl (by kernel_rfl) (by kernel_rfl) (fun v115 : Bool => .d (.bool v115)) (fun v115 : Bool => ⟨[[.d (.int .i64 a0.X), .d (.int .i64 a0.Y), .d (.int .i64 a0.Z)]], []⟩) hv32 rfl ?_ ?_
  ·simp only [List.replicate, List.length, nS, nA, Tryd.ntmps82, SV]
   refine Mir.seqK ?_
   refine Mir.region fun e h => ?_
   simp only [↓reduceIte, reduceCtorEq, nA, nS, nM, nE, nL, nT, nB, iT, iN, iE, and_self, SR, SV, eInt]
   refine Mir.use (e := e) ?_ h
   refine Mir.seqK ?_
   refine Mir.bind fun v129 hv63 => ?_
   refine Mir.region fun e h => ?_
   simp only [↓reduceIte, reduceCtorEq, nA, nS, nM, nE, nL, nT, nB, iT, iN, iE, and_self, SR, SV, eInt]
   refine SpecS.inl Tryd.func94 rfl (by kernel_rfl) (by kernel_rfl) (fun v129 : Int => .d (.int .i64 v129)) (fun v129 : Int => ⟨[[.d (.int .i64 a0.X), .d (.int .i64 a0.Y), .d (.int .i64 a0.Z)]], []⟩) hv63 rfl ?_ ?_
   ·simp only [List.replicate, List.length, nS, nA, Tryd.ntmps94, SV]
    refine Mir.seqK ?_
    refine Mir.region fun e h => ?_
    simp only [↓reduceIte, reduceCtorEq, nA, nS, nM, nE, nL, nT, nB, iT, iN, iE, and_self, SR, SV, eInt]
    refine Mir.use (e := e) ?_ h
    refine Mir.seqK ?_
    refine Mir.seqK ?_
    refine Mir.region fun e h => ?_
    simp only [↓reduceIte, reduceCtorEq, nA, nS, nM, nE, nL, nT, nB, iT, iN, iE, and_self, SR, SV, und_98, (nr rfl : ((3 : Nat) : Int) = 3), eInt]
    refine Mir.use (e := e) ?_ h
    refine Mir.join (fun v136 : Unit => [U, U, U, U, U, U, U, U, U, U, U, U, U, U, U, U, U, U, U]) (fun v136 : Unit => ⟨[[.d (.int .i64 a0.X), .d (.int .i64 a0.Y), .d (.int .i64 a0.Z)]], []⟩) (fun _ => rfl) ?_ ?_
    ·refine Mir.block ?_
     refine Mir.loopR 15 ?_
     refine Mir.seqK ?_
     refine Mir.region fun e h => ?_
     simp only [↓reduceIte, reduceCtorEq, nA, nS, nM, nE, nL, nT, nB, iT, iN, iE, and_self, SR, SV, eInt]
     refine Mir.use (e := e) ?_ h
     refine Mir.seqK ?_
     refine Mir.condT rfl ?_
     refine Mir.skip ?_
     refine Mir.toK ?_
     refine Mir.seqK ?_
     refine Mir.block ?_
     refine Mir.seqK ?_
     refine Mir.region fun e h => ?_
     simp only [↓reduceIte, reduceCtorEq, nA, nS, nM, nE, nL, nT, nB, iT, iN, iE, and_self, SR, SV, eInt]
     refine Mir.use (e := e) ?_ h
     refine Mir.seqK ?_
     refine Mir.bind fun y138 hy81 => ?_
     refine Mir.region fun e h => ?_
     simp only [↓reduceIte, reduceCtorEq, nA, nS, nM, nE, nL, nT, nB, iT, iN, iE, and_self, SR, SV, und_98, sz_2, ag_2, eInt]
     refine SpecS.by (inp_inside_c1_spec hy81) (by simp only [↓reduceIte, reduceCtorEq, nA, nE, nL, and_self, and_true, true_and, SL, eInt]) ?_
     simp only [↓reduceIte, reduceCtorEq, nA, nS, nM, nE, nL, nT, nB, iT, iN, iE, and_self, SR, SV, eInt]
     refine Mir.use (e := e) ?_ h
     refine Mir.cond rfl (fun hb83 => ?_) (fun hb83 => ?_)
     ·refine Mir.seqK ?_
      refine Mir.region fun e h => ?_
      simp only [↓reduceIte, reduceCtorEq, nA, nS, nM, nE, nL, nT, nB, iT, iN, iE, and_self, SR, SV, eInt]
      refine Mir.use (e := e) ?_ h
      refine Mir.ret fun e h => ?_
      cases h
      simp only [↓reduceIte, reduceCtorEq, nA, nE, nL, and_self, and_true, true_and, SL, eInt, Tryd.results94]
     ·refine Mir.skip ?_
      refine Mir.toB ?_
      refine Mir.toK ?_
      refine Mir.region fun e h => ?_
      simp only [↓reduceIte, reduceCtorEq, nA, nS, nM, nE, nL, nT, nB, iT, iN, iE, and_self, SR, SV, (nr rfl : IntKind.i64.wrap (0 + 1) = 1), eInt]
      refine Mir.useN (e := e) ?_ h
      refine Mir.seqK ?_
      refine Mir.region fun e h => ?_
      simp only [↓reduceIte, reduceCtorEq, nA, nS, nM, nE, nL, nT, nB, iT, iN, iE, and_self, SR, SV, eInt]
      refine Mir.use (e := e) ?_ h
      refine Mir.seqK ?_
      refine Mir.condT rfl ?_
      refine Mir.skip ?_
      refine Mir.toK ?_
      refine Mir.seqK ?_
      refine Mir.block ?_
      refine Mir.seqK ?_
      refine Mir.region fun e h => ?_
      simp only [↓reduceIte, reduceCtorEq, nA, nS, nM, nE, nL, nT, nB, iT, iN, iE, and_self, SR, SV, eInt]
      refine Mir.use (e := e) ?_ h
      refine Mir.seqK ?_
      refine Mir.bind fun y140 hy86 => ?_
      refine Mir.region fun e h => ?_
      simp only [↓reduceIte, reduceCtorEq, nA, nS, nM, nE, nL, nT, nB, iT, iN, iE, and_self, SR, SV, und_98, sz_2, ag_2, eInt]
      refine SpecS.by (inp_inside_c1_spec hy86) (by simp only [↓reduceIte, reduceCtorEq, nA, nE, nL, and_self, and_true, true_and, SL, eInt]) ?_
      simp only [↓reduceIte, reduceCtorEq, nA, nS, nM, nE, nL, nT, nB, iT, iN, iE, and_self, SR, SV, eInt]
      refine Mir.use (e := e) ?_ h
      refine Mir.cond rfl (fun hb88 => ?_) (fun hb88 => ?_)
      ·refine Mir.seqK ?_
       refine Mir.region fun e h => ?_
       simp only [↓reduceIte, reduceCtorEq, nA, nS, nM, nE, nL, nT, nB, iT, iN, iE, and_self, SR, SV, eInt]
       refine Mir.use (e := e) ?_ h
       refine Mir.ret fun e h => ?_
       cases h
       simp only [↓reduceIte, reduceCtorEq, nA, nE, nL, and_self, and_true, true_and, SL, eInt, Tryd.results94]
      ·refine Mir.skip ?_
       refine Mir.toB ?_
       refine Mir.toK ?_
       refine Mir.region fun e h => ?_
       simp only [↓reduceIte, reduceCtorEq, nA, nS, nM, nE, nL, nT, nB, iT, iN, iE, and_self, SR, SV, (nr rfl : IntKind.i64.wrap (1 + 1) = 2), eInt]
       refine Mir.useN (e := e) ?_ h
       refine Mir.seqK ?_
       refine Mir.region fun e h => ?_
       simp only [↓reduceIte, reduceCtorEq, nA, nS, nM, nE, nL, nT, nB, iT, iN, iE, and_self, SR, SV, eInt]
       refine Mir.use (e := e) ?_ h
       refine Mir.seqK ?_
       refine Mir.condT rfl ?_
       refine Mir.skip ?_
       refine Mir.toK ?_
       refine Mir.seqK ?_
       refine Mir.block ?_
       refine Mir.seqK ?_
       refine Mir.region fun e h => ?_
       simp only [↓reduceIte, reduceCtorEq, nA, nS, nM, nE, nL, nT, nB, iT, iN, iE, and_self, SR, SV, eInt]
       refine Mir.use (e := e) ?_ h
       refine Mir.seqK ?_
       refine Mir.bind fun y142 hy91 => ?_
       refine Mir.region fun e h => ?_
       simp only [↓reduceIte, reduceCtorEq, nA, nS, nM, nE, nL, nT, nB, iT, iN, iE, and_self, SR, SV, und_98, sz_2, ag_2, eInt]
       refine SpecS.by (inp_inside_c1_spec hy91) (by simp only [↓reduceIte, reduceCtorEq, nA, nE, nL, and_self, and_true, true_and, SL, eInt]) ?_
       simp only [↓reduceIte, reduceCtorEq, nA, nS, nM, nE, nL, nT, nB, iT, iN, iE, and_self, SR, SV, eInt]
       refine Mir.use (e := e) ?_ h
       refine Mir.cond rfl (fun hb93 => ?_) (fun hb93 => ?_)
       ·refine Mir.seqK ?_
        refine Mir.region fun e h => ?_
        simp only [↓reduceIte, reduceCtorEq, nA, nS, nM, nE, nL, nT, nB, iT, iN, iE, and_self, SR, SV, eInt]
        refine Mir.use (e := e) ?_ h
        refine Mir.ret fun e h => ?_
        cases h
        simp only [↓reduceIte, reduceCtorEq, nA, nE, nL, and_self, and_true, true_and, SL, eInt, Tryd.results94]
       ·refine Mir.skip ?_
        refine Mir.toB ?_
        refine Mir.toK ?_
        refine Mir.region fun e h => ?_
        simp only [↓reduceIte, reduceCtorEq, nA, nS, nM, nE, nL, nT, nB, iT, iN, iE, and_self, SR, SV, (nr rfl : IntKind.i64.wrap (2 + 1) = 3), eInt]
        refine Mir.useN (e := e) ?_ h
        refine Mir.seqK ?_
        refine Mir.region fun e h => ?_
        simp only [↓reduceIte, reduceCtorEq, nA, nS, nM, nE, nL, nT, nB, iT, iN, iE, and_self, SR, SV, eInt]
        refine Mir.use (e := e) ?_ h
        refine Mir.seqK ?_
        refine Mir.condF rfl ?_
        refine Mir.exit fun e h => ?_
        cases h
        simp only [↓reduceIte, reduceCtorEq, nA, nE, nL, and_self, and_true, true_and, SL, eInt, Tryd.results94]
    ·intro v136
     refine Mir.toK ?_
     refine Mir.seqK ?_
     refine Mir.region fun e h => ?_
     simp only [↓reduceIte, reduceCtorEq, nA, nS, nM, nE, nL, nT, nB, iT, iN, iE, and_self, SR, SV, eInt]
     refine Mir.use (e := e) ?_ h
     refine Mir.ret fun e h => ?_
     cases h
     simp only [↓reduceIte, reduceCtorEq, nA, nE, nL, and_self, and_true, true_and, SL, eInt, Tryd.results94]
   simp only [↓reduceIte, reduceCtorEq, nA, nS, nM, nE, nL, nT, nB, iT, iN, iE, and_self, SR, SV, eInt]
   refine Mir.use (e := e) ?_ h
   refine Mir.ret fun e h => ?_
   cases h
   simp only [↓reduceIte, reduceCtorEq, nA, nE, nL, and_self, and_true, true_and, SL, eInt, Tryd.results82]
  simp only [↓reduceIte, reduceCtorEq, nA, nS, nM, nE, nL, nT, nB, iT, iN, iE, and_self, SR, SV, eInt]
  refine Mir.use (e := e) ?_ h
  refine Mir.ret fun e h => ?_
  cases h
  simp only [↓reduceIte, reduceCtorEq, nA, nE, nL, and_self, and_true, true_and, SL, eInt, Tryd.results65]

def inp_checked (a0 : TableTable) (a1 : ApiPos) : Option Int :=
  bindO (tb_Valid (TableTable.mk a0.Work a0.Lengths)) fun (y103 : Int) =>
  if (y103 != 0) = true then
    some 1
  else
    bindO (inp_inside a1) fun (y105 : Bool) =>
    if (!y105) = true then
      some 11
    else
      some 0
theorem inp_checked_spec {a0 : TableTable} {a1 : ApiPos} {y : Int} (h : inp_checked a0 a1 = some y) : Spec gP 42 [.agg [.d (.int .i64 a0.Work.e0.X), .d (.int .i64 a0.Work.e0.Y), .d (.int .i64 a0.Work.e0.Z), .d (.int .i64 a0.Work.e1.X), .d (.int .i64 a0.Work.e1.Y), .d (.int .i64 a0.Work.e1.Z), .d (.int .i64 a0.Work.e2.X), .d (.int .i64 a0.Work.e2.Y), .d (.int .i64 a0.Work.e2.Z), .d (.int .i64 a0.Work.e3.X), .d (.int .i64 a0.Work.e3.Y), .d (.int .i64 a0.Work.e3.Z), .d (.int .i64 a0.Work.e4.X), .d (.int .i64 a0.Work.e4.Y), .d (.int .i64 a0.Work.e4.Z), .d (.int .i64 a0.Work.e5.X), .d (.int .i64 a0.Work.e5.Y), .d (.int .i64 a0.Work.e5.Z), .d (.list (List.map encTableLength a0.Lengths))], .agg [.d (.int .i64 a1.X), .d (.int .i64 a1.Y), .d (.int .i64 a1.Z)]] (.d (.int .i64 y)) := by
  refine spec_mir Tryd.func42 rfl (by kernel_rfl) (by kernel_rfl) (fun y : Int => .d (.int .i64 y)) ?_ h
  unfold inp_checked
  simp only [List.replicate, List.length, nS, nA, Tryd.ntmps42, SV]
  refine Mir.seqK ?_
  refine Mir.region fun e h => ?_
  simp only [↓reduceIte, reduceCtorEq, nA, nS, nM, nE, nL, nT, nB, iT, iN, iE, and_self, SR, SV, encTableLength]
  refine Mir.use (e := e) ?_ h
  refine Mir.seqK ?_
  refine Mir.block ?_
  refine Mir.seqK ?_
  refine Mir.bind fun y103 hy5 => ?_
  refine Mir.region fun e h => ?_
  simp only [↓reduceIte, reduceCtorEq, nA, nS, nM, nE, nL, nT, nB, iT, iN, iE, and_self, SR, SV, ag_54, sz_54, encTableLength]
  refine SpecS.by (tb_Valid_spec hy5) (by simp only [↓reduceIte, reduceCtorEq, nA, nE, nL, and_self, and_true, true_and, SL, encTableLength]) ?_
  simp only [↓reduceIte, reduceCtorEq, nA, nS, nM, nE, nL, nT, nB, iT, iN, iE, and_self, SR, SV, encTableLength]
  refine Mir.use (e := e) ?_ h
  refine Mir.cond rfl (fun hb9 => ?_) (fun hb9 => ?_)
  ·refine Mir.seqK ?_
   refine Mir.region fun e h => ?_
   simp only [↓reduceIte, reduceCtorEq, nA, nS, nM, nE, nL, nT, nB, iT, iN, iE, and_self, SR, SV, encTableLength]
   refine Mir.use (e := e) ?_ h
   refine Mir.ret fun e h => ?_
   cases h
   simp only [↓reduceIte, reduceCtorEq, nA, nE, nL, and_self, and_true, true_and, SL, encTableLength, Tryd.results42]
  ·refine Mir.seqK ?_
   refine Mir.bind fun y105 hy10 => ?_
   refine Mir.region fun e h => ?_
   simp only [↓reduceIte, reduceCtorEq, nA, nS, nM, nE, nL, nT, nB, iT, iN, iE, and_self, SR, SV, ag_24, sz_24, encTableLength]
   refine SpecS.by (inp_inside_spec hy10) (by simp only [↓reduceIte, reduceCtorEq, nA, nE, nL, and_self, and_true, true_and, SL, encTableLength]) ?_
   simp only [↓reduceIte, reduceCtorEq, nA, nS, nM, nE, nL, nT, nB, iT, iN, iE, and_self, SR, SV, encTableLength]
   refine Mir.use (e := e) ?_ h
   refine Mir.cond rfl (fun hb12 => ?_) (fun hb12 => ?_)
   ·refine Mir.seqK ?_
    refine Mir.region fun e h => ?_
    simp only [↓reduceIte, reduceCtorEq, nA, nS, nM, nE, nL, nT, nB, iT, iN, iE, and_self, SR, SV, encTableLength]
    refine Mir.use (e := e) ?_ h
    refine Mir.ret fun e h => ?_
    cases h
    simp only [↓reduceIte, reduceCtorEq, nA, nE, nL, and_self, and_true, true_and, SL, encTableLength, Tryd.results42]
   ·refine Mir.skip ?_
    refine Mir.toB ?_
    refine Mir.toK ?_
    refine Mir.seqK ?_
    refine Mir.region fun e h => ?_
    simp only [↓reduceIte, reduceCtorEq, nA, nS, nM, nE, nL, nT, nB, iT, iN, iE, and_self, SR, SV, encTableLength]
    refine Mir.use (e := e) ?_ h
    refine Mir.ret fun e h => ?_
    cases h
    simp only [↓reduceIte, reduceCtorEq, nA, nE, nL, and_self, and_true, true_and, SL, encTableLength, Tryd.results42]

def md_New  : Option ModalState :=
  some (ModalState.mk 0 90000 54000 49000 98000 0 0 0)
theorem md_New_spec  {y : ModalState} (h : md_New = some y) : Spec gP 20 [] (.agg [.d (.int .i64 y.Motion), .d (.int .i64 y.Distance), .d (.int .i64 y.Work), .d (.int .i64 y.Length), .d (.int .i64 y.Return), .d (.int .i64 y.Feed), .d (.int .i64 y.Tool), .d (.int .i64 y.Offset)]) := by
  refine spec_mir Tryd.func20 rfl (by kernel_rfl) (by kernel_rfl) (fun y : ModalState => .agg [.d (.int .i64 y.Motion), .d (.int .i64 y.Distance), .d (.int .i64 y.Work), .d (.int .i64 y.Length), .d (.int .i64 y.Return), .d (.int .i64 y.Feed), .d (.int .i64 y.Tool), .d (.int .i64 y.Offset)]) ?_ h
  unfold md_New
  simp only [List.replicate, List.length, nS, nA, Tryd.ntmps20, SV]
  refine Mir.seqK ?_
  refine Mir.region fun e h => ?_
  simp only [↓reduceIte, reduceCtorEq, nA, nS, nM, nE, nL, nT, nB, iT, iN, iE, and_self, SR, SV, zero_65]
  refine Mir.use (e := e) ?_ h
  refine Mir.seqK ?_
  refine Mir.region fun e h => ?_
  simp only [↓reduceIte, reduceCtorEq, nA, nS, nM, nE, nL, nT, nB, iT, iN, iE, and_self, SR, SV, zero_65, pl_65, sz_65]
  refine Mir.use (e := e) ?_ h
  refine Mir.ret fun e h => ?_
  cases h
  simp only [↓reduceIte, reduceCtorEq, nA, nE, nL, and_self, and_true, true_and, SL, Tryd.results20, ag_65, sz_65]

def bk_printable (a0 : Int) : Option Bool :=
  some ((decide (a0 ≥ 32)) && ((decide (a0 ≤ 126)) && ((a0 != 40) && (a0 != 41))))
theorem bk_printable_spec {a0 : Int} {y : Bool} (h : bk_printable a0 = some y) : Spec gP 67 [.d (.int .u8 a0)] (.d (.bool y)) := by
  refine spec_mir Tryd.func67 rfl (by kernel_rfl) (by kernel_rfl) (fun y : Bool => .d (.bool y)) ?_ h
  unfold bk_printable
  simp only [List.replicate, List.length, nS, nA, Tryd.ntmps67, SV]
  refine Mir.seqK ?_
  refine Mir.region fun e h => ?_
  simp only [↓reduceIte, reduceCtorEq, nA, nS, nM, nE, nL, nT, nB, iT, iN, iE, and_self, SR, SV]
  refine Mir.use (e := e) ?_ h
  refine Mir.seqK ?_
  refine Mir.joinV [U, U, .d (.bool ((decide (a0 ≥ 32)) && ((decide (a0 ≤ 126)) && ((a0 != 40) && (a0 != 41))))), U, U, U, U, U, U, U, U, U, U, U, U, U, U] ⟨[], []⟩ rfl ?_ ?_
  ·refine SWs.region ?_
   rcases Bool.eq_false_or_eq_true (decide (a0 ≥ 32)) with hb1 | hb1
   ·rcases Bool.eq_false_or_eq_true (decide (a0 ≤ 126)) with hb2 | hb2
    ·rcases Bool.eq_false_or_eq_true (a0 != 40) with hb3 | hb3
     ·simp only [↓reduceIte, reduceCtorEq, nA, nS, nM, nE, nL, nT, nB, iT, iN, iE, and_self, SR, SV, SL, Bool.true_and, Bool.false_and, Bool.true_or, Bool.false_or, Bool.or_true, Bool.or_false, Bool.and_true, Bool.and_false, Bool.not_true, Bool.not_false, hb1, hb2, hb3]
     ·simp only [↓reduceIte, reduceCtorEq, nA, nS, nM, nE, nL, nT, nB, iT, iN, iE, and_self, SR, SV, SL, Bool.true_and, Bool.false_and, Bool.true_or, Bool.false_or, Bool.or_true, Bool.or_false, Bool.and_true, Bool.and_false, Bool.not_true, Bool.not_false, hb1, hb2, hb3]
    ·simp only [↓reduceIte, reduceCtorEq, nA, nS, nM, nE, nL, nT, nB, iT, iN, iE, and_self, SR, SV, SL, Bool.true_and, Bool.false_and, Bool.true_or, Bool.false_or, Bool.or_true, Bool.or_false, Bool.and_true, Bool.and_false, Bool.not_true, Bool.not_false, hb1, hb2]
   ·simp only [↓reduceIte, reduceCtorEq, nA, nS, nM, nE, nL, nT, nB, iT, iN, iE, and_self, SR, SV, SL, Bool.true_and, Bool.false_and, Bool.true_or, Bool.false_or, Bool.or_true, Bool.or_false, Bool.and_true, Bool.and_false, Bool.not_true, Bool.not_false, hb1]
  ·refine Mir.toK ?_
   refine Mir.ret fun e h => ?_
   cases h
   simp only [↓reduceIte, reduceCtorEq, nA, nE, nL, and_self, and_true, true_and, SL, Tryd.results67]

def bk_Valid (a0 : ApiBlock) : Option Int :=
  if ((decide ((a0.Words.length : Int) > 16)) || (decide ((a0.Comment.length : Int) > 100))) = true then
    some 1
  else
    bindX (guardO (okIdx a0.Words) (
        rangeX (fun (i127 : Nat) (e129 : ApiWord) (v128 : Unit) =>
          if ((decide (e129.Letter < 65)) || ((decide (e129.Letter > 90)) || ((decide (e129.Value > 1000000000000)) || (decide (e129.Value < (-1000000000000)))))) = true then
            some (.ret (.ret 1))
          else
            some (.go ())) (fun (v128 : Unit) => some (.go ())) a0.Words 0 ())) fun (v115 : Unit) =>
    bindX (guardO (okIdx (bytesI a0.Comment)) (
        rangeX (fun (i170 : Nat) (e172 : Int) (v171 : Unit) =>
          bindO (bk_printable e172) fun (y174 : Bool) =>
          if (!y174) = true then
            some (.ret (.ret 1))
          else
            some (.go ())) (fun (v171 : Unit) => some (.go ())) (bytesI a0.Comment) 0 ())) fun (v152 : Unit) =>
    some 0
theorem bk_Valid_spec {a0 : ApiBlock} {y : Int} (h : bk_Valid a0 = some y) : Spec gP 47 [.agg [.d (.bool a0.Skip), .d (.list (List.map encApiWord a0.Words)), .d (.str a0.Comment)]] (.d (.int .i64 y)) := by
  refine spec_mir Tryd.func47 rfl (by kernel_rfl) (by kernel_rfl) (fun y : Int => .d (.int .i64 y)) ?_ h
  unfold bk_Valid
  simp only [List.replicate, List.length, nS, nA, Tryd.ntmps47, SV]
  refine Mir.seqK ?_
  refine Mir.region fun e h => ?_
  simp only [↓reduceIte, reduceCtorEq, nA, nS, nM, nE, nL, nT, nB, iT, iN, iE, and_self, SR, SV, eInt, encApiWord]
  refine Mir.use (e := e) ?_ h
  refine Mir.seqK ?_
  refine Mir.seqK ?_
  refine Mir.joinV [U, .ptr 0 0, U, U, U, U, U, U, U, U, U, U, U, U, U, U, .d (.bool ((decide ((a0.Words.length : Int) > 16)) || (decide ((a0.Comment.length : Int) > 100)))), U, U, U, U, U, U, U, U, U, U, U, U, U, U, U, U, U, U, U, U, U, U, U, U, U, U, U, U, U, U, U, U, U, U, U, U, U, U] ⟨[[.d (.bool a0.Skip), .d (.list (List.map encApiWord a0.Words)), .d (.str a0.Comment)]], []⟩ rfl ?_ ?_
  ·refine SWs.region ?_
   rcases Bool.eq_false_or_eq_true (decide ((a0.Words.length : Int) > 16)) with hb1 | hb1
   ·simp only [↓reduceIte, reduceCtorEq, nA, nS, nM, nE, nL, nT, nB, iT, iN, iE, and_self, SR, SV, SL, Bool.true_and, Bool.false_and, Bool.true_or, Bool.false_or, Bool.or_true, Bool.or_false, Bool.and_true, Bool.and_false, Bool.not_true, Bool.not_false, fld_42_1, sz_40, ag_40, und_40, hb1, eInt, encApiWord]
   ·simp only [↓reduceIte, reduceCtorEq, nA, nS, nM, nE, nL, nT, nB, iT, iN, iE, and_self, SR, SV, SL, Bool.true_and, Bool.false_and, Bool.true_or, Bool.false_or, Bool.or_true, Bool.or_false, Bool.and_true, Bool.and_false, Bool.not_true, Bool.not_false, fld_42_1, sz_40, ag_40, und_40, fld_42_2, sz_9, ag_9, und_9, hb1, eInt, encApiWord]
  ·refine Mir.toK ?_
   refine Mir.cond rfl (fun hb3 => ?_) (fun hb3 => ?_)
   ·refine Mir.seqK ?_
    refine Mir.region fun e h => ?_
    simp only [↓reduceIte, reduceCtorEq, nA, nS, nM, nE, nL, nT, nB, iT, iN, iE, and_self, SR, SV, encApiWord]
    refine Mir.use (e := e) ?_ h
    refine Mir.ret fun e h => ?_
    cases h
    simp only [↓reduceIte, reduceCtorEq, nA, nE, nL, and_self, and_true, true_and, SL, encApiWord, Tryd.results47]
   ·refine Mir.skip ?_
    refine Mir.toK ?_
    refine Mir.seqK ?_
    refine Mir.seqK ?_
    refine Mir.region fun e h => ?_
    simp only [↓reduceIte, reduceCtorEq, nA, nS, nM, nE, nL, nT, nB, iT, iN, iE, and_self, SR, SV, fld_42_1, sz_40, ag_40, und_40, eInt, encApiWord]
    refine Mir.use (e := e) ?_ h
    refine Mir.join (fun v115 : Unit => [U, .ptr 0 0, U, U, U, U, U, U, U, U, U, U, U, U, U, U, U, U, U, U, U, U, U, U, U, U, U, U, U, U, U, U, U, U, U, U, U, U, U, U, U, U, U, U, U, U, U, U, U, U, U, U, U, U, U]) (fun v115 : Unit => ⟨[[.d (.bool a0.Skip), .d (.list (List.map encApiWord a0.Words)), .d (.str a0.Comment)]], []⟩) (fun _ => rfl) ?_ ?_
    ·refine Mir.block ?_
     refine Mir.guard fun qg96 => ?_
     refine Mir.range (fun (i127 : Nat) (v128 : Unit) => [U, .ptr 0 0, U, U, U, U, U, U, U, U, U, U, U, U, U, U, U, U, .d (.list (List.map encApiWord a0.Words)), .d (.int .i64 (a0.Words.length : Int)), .d (.int .i64 (i127 : Int)), U, U, U, U, U, U, U, U, U, U, U, U, U, U, U, U, U, U, U, U, U, U, U, U, U, U, U, U, U, U, U, U, U, U]) (fun (i127 : Nat) (v128 : Unit) => ⟨[[.d (.bool a0.Skip), .d (.list (List.map encApiWord a0.Words)), .d (.str a0.Comment)]], []⟩) qg96 (fun _ _ => rfl) (by simp only [↓reduceIte, reduceCtorEq, nA, nE, nL, and_self, and_true, true_and, SL, encApiWord, (nr rfl : ((0 : Nat) : Int) = 0)]) (by simp only [↓reduceIte, reduceCtorEq, nA, nE, nL, and_self, and_true, true_and, SL, encApiWord, (nr rfl : ((0 : Nat) : Int) = 0)]) ?_ ?_
     ·intro i127 e129 v128 qr94
      refine Mir.seqK ?_
      refine Mir.region fun e h => ?_
      simp only [↓reduceIte, reduceCtorEq, nA, nS, nM, nE, nL, nT, nB, iT, iN, iE, and_self, SR, SV, qr94, encApiWord]
      refine Mir.use (e := e) ?_ h
      refine Mir.seqK ?_
      refine Mir.condT rfl ?_
      refine Mir.skip ?_
      refine Mir.toK ?_
      refine Mir.seqK ?_
      refine Mir.block ?_
      refine Mir.seqK ?_
      refine Mir.region fun e h => ?_
      simp only [↓reduceIte, reduceCtorEq, nA, nS, nM, nE, nL, nT, nB, iT, iN, iE, and_self, SR, SV, und_40, sz_38, qr94, Int.toNat_natCast, ag_38, zero_38, encApiWord]
      refine Mir.use (e := e) ?_ h
      refine Mir.seqK ?_
      refine Mir.joinV [U, .ptr 0 0, U, U, U, U, U, U, U, U, U, U, U, U, U, U, U, U, .d (.list (List.map encApiWord a0.Words)), .d (.int .i64 (a0.Words.length : Int)), .d (.int .i64 (i127 : Int)), U, U, U, U, U, U, U, U, U, U, U, U, U, U, U, U, U, U, U, U, .d (.bool ((decide (e129.Letter < 65)) || ((decide (e129.Letter > 90)) || ((decide (e129.Value > 1000000000000)) || (decide (e129.Value < (-1000000000000))))))), U, U, U, U, U, U, U, U, U, U, U, U, U] ⟨[[.d (.bool a0.Skip), .d (.list (List.map encApiWord a0.Words)), .d (.str a0.Comment)], [.d (.int .u8 e129.Letter), .d (.int .i64 e129.Value)]], []⟩ rfl ?_ ?_
      ·refine SWs.region ?_
       rcases Bool.eq_false_or_eq_true (decide (e129.Letter < 65)) with hb101 | hb101
       ·simp only [↓reduceIte, reduceCtorEq, nA, nS, nM, nE, nL, nT, nB, iT, iN, iE, and_self, SR, SV, SL, Bool.true_and, Bool.false_and, Bool.true_or, Bool.false_or, Bool.or_true, Bool.or_false, Bool.and_true, Bool.and_false, Bool.not_true, Bool.not_false, fld_38_0, sz_5, ag_5, hb101, encApiWord]
       ·rcases Bool.eq_false_or_eq_true (decide (e129.Letter > 90)) with hb102 | hb102
        ·simp only [↓reduceIte, reduceCtorEq, nA, nS, nM, nE, nL, nT, nB, iT, iN, iE, and_self, SR, SV, SL, Bool.true_and, Bool.false_and, Bool.true_or, Bool.false_or, Bool.or_true, Bool.or_false, Bool.and_true, Bool.and_false, Bool.not_true, Bool.not_false, fld_38_0, sz_5, ag_5, hb101, hb102, encApiWord]
        ·rcases Bool.eq_false_or_eq_true (decide (e129.Value > 1000000000000)) with hb103 | hb103
         ·simp only [↓reduceIte, reduceCtorEq, nA, nS, nM, nE, nL, nT, nB, iT, iN, iE, and_self, SR, SV, SL, Bool.true_and, Bool.false_and, Bool.true_or, Bool.false_or, Bool.or_true, Bool.or_false, Bool.and_true, Bool.and_false, Bool.not_true, Bool.not_false, fld_38_0, sz_5, ag_5, fld_38_1, sz_2, ag_2, hb101, hb102, hb103, encApiWord]
         ·simp only [↓reduceIte, reduceCtorEq, nA, nS, nM, nE, nL, nT, nB, iT, iN, iE, and_self, SR, SV, SL, Bool.true_and, Bool.false_and, Bool.true_or, Bool.false_or, Bool.or_true, Bool.or_false, Bool.and_true, Bool.and_false, Bool.not_true, Bool.not_false, fld_38_0, sz_5, ag_5, fld_38_1, sz_2, ag_2, hb101, hb102, hb103, encApiWord]
      ·refine Mir.toK ?_
       refine Mir.cond rfl (fun hb105 => ?_) (fun hb105 => ?_)
       ·refine Mir.seqK ?_
        refine Mir.region fun e h => ?_
        simp only [↓reduceIte, reduceCtorEq, nA, nS, nM, nE, nL, nT, nB, iT, iN, iE, and_self, SR, SV, encApiWord]
        refine Mir.use (e := e) ?_ h
        refine Mir.ret fun e h => ?_
        cases h
        simp only [↓reduceIte, reduceCtorEq, nA, nE, nL, and_self, and_true, true_and, SL, encApiWord, Tryd.results47]
       ·refine Mir.skip ?_
        refine Mir.toB ?_
        refine Mir.toK ?_
        refine Mir.region fun e h => ?_
        simp only [↓reduceIte, reduceCtorEq, nA, nS, nM, nE, nL, nT, nB, iT, iN, iE, and_self, SR, SV, encApiWord]
        cases h
        simp only [↓reduceIte, reduceCtorEq, nA, nE, nL, and_self, and_true, true_and, SL, encApiWord, Tryd.results47, qr94]
     ·intro v128 qd95
      refine Mir.seqK ?_
      refine Mir.region fun e h => ?_
      simp only [↓reduceIte, reduceCtorEq, nA, nS, nM, nE, nL, nT, nB, iT, iN, iE, and_self, SR, SV, qd95, encApiWord]
      refine Mir.use (e := e) ?_ h
      refine Mir.seqK ?_
      refine Mir.condF rfl ?_
      refine Mir.exit fun e h => ?_
      cases h
      simp only [↓reduceIte, reduceCtorEq, nA, nE, nL, and_self, and_true, true_and, SL, encApiWord, Tryd.results47]
    ·intro v115
     refine Mir.toK ?_
     refine Mir.seqK ?_
     refine Mir.seqK ?_
     refine Mir.region fun e h => ?_
     simp only [↓reduceIte, reduceCtorEq, nA, nS, nM, nE, nL, nT, nB, iT, iN, iE, and_self, SR, SV, fld_42_2, sz_9, ag_9, und_9, und_122, und_5, bytes_enc, eInt, encApiWord]
     refine Mir.use (e := e) ?_ h
     refine Mir.join (fun v152 : Unit => [U, U, U, U, U, U, U, U, U, U, U, U, U, U, U, U, U, U, U, U, U, U, U, U, U, U, U, U, U, U, U, U, U, U, U, U, U, U, U, U, U, U, U, U, U, U, U, U, U, U, U, U, U, U, U]) (fun v152 : Unit => ⟨[[.d (.bool a0.Skip), .d (.list (List.map encApiWord a0.Words)), .d (.str a0.Comment)]], []⟩) (fun _ => rfl) ?_ ?_
     ·refine Mir.block ?_
      refine Mir.guard fun qg170 => ?_
      refine Mir.range (fun (i170 : Nat) (v171 : Unit) => [U, U, U, U, U, U, U, U, U, U, U, U, U, U, U, U, U, U, U, U, U, U, U, U, U, U, U, U, U, U, U, U, U, U, U, U, U, U, U, U, U, U, U, U, U, .d (.list (List.map (eInt .u8) (bytesI a0.Comment))), .d (.int .i64 ((bytesI a0.Comment).length : Int)), .d (.int .i64 (i170 : Int)), U, U, U, U, U, U, U]) (fun (i170 : Nat) (v171 : Unit) => ⟨[[.d (.bool a0.Skip), .d (.list (List.map encApiWord a0.Words)), .d (.str a0.Comment)]], []⟩) qg170 (fun _ _ => rfl) (by simp only [↓reduceIte, reduceCtorEq, nA, nE, nL, and_self, and_true, true_and, SL, eInt, encApiWord, (nr rfl : ((0 : Nat) : Int) = 0)]) (by simp only [↓reduceIte, reduceCtorEq, nA, nE, nL, and_self, and_true, true_and, SL, eInt, encApiWord, (nr rfl : ((0 : Nat) : Int) = 0)]) ?_ ?_
      ·intro i170 e172 v171 qr168
       refine Mir.seqK ?_
       refine Mir.region fun e h => ?_
       simp only [↓reduceIte, reduceCtorEq, nA, nS, nM, nE, nL, nT, nB, iT, iN, iE, and_self, SR, SV, qr168, eInt, encApiWord]
       refine Mir.use (e := e) ?_ h
       refine Mir.seqK ?_
       refine Mir.condT rfl ?_
       refine Mir.skip ?_
       refine Mir.toK ?_
       refine Mir.seqK ?_
       refine Mir.block ?_
       refine Mir.seqK ?_
       refine Mir.region fun e h => ?_
       simp only [↓reduceIte, reduceCtorEq, nA, nS, nM, nE, nL, nT, nB, iT, iN, iE, and_self, SR, SV, und_122, sz_5, qr168, Int.toNat_natCast, ag_5, eInt, encApiWord]
       refine Mir.use (e := e) ?_ h
       refine Mir.seqK ?_
       refine Mir.bind fun y174 hy173 => ?_
       refine Mir.region fun e h => ?_
       simp only [↓reduceIte, reduceCtorEq, nA, nS, nM, nE, nL, nT, nB, iT, iN, iE, and_self, SR, SV, eInt, encApiWord]
       refine SpecS.by (bk_printable_spec hy173) (by simp only [↓reduceIte, reduceCtorEq, nA, nE, nL, and_self, and_true, true_and, SL, eInt, encApiWord]) ?_
       simp only [↓reduceIte, reduceCtorEq, nA, nS, nM, nE, nL, nT, nB, iT, iN, iE, and_self, SR, SV, eInt, encApiWord]
       refine Mir.use (e := e) ?_ h
       refine Mir.cond rfl (fun hb175 => ?_) (fun hb175 => ?_)
       ·refine Mir.seqK ?_
        refine Mir.region fun e h => ?_
        simp only [↓reduceIte, reduceCtorEq, nA, nS, nM, nE, nL, nT, nB, iT, iN, iE, and_self, SR, SV, eInt, encApiWord]
        refine Mir.use (e := e) ?_ h
        refine Mir.ret fun e h => ?_
        cases h
        simp only [↓reduceIte, reduceCtorEq, nA, nE, nL, and_self, and_true, true_and, SL, eInt, encApiWord, Tryd.results47]
       ·refine Mir.skip ?_
        refine Mir.toB ?_
        refine Mir.toK ?_
        refine Mir.region fun e h => ?_
        simp only [↓reduceIte, reduceCtorEq, nA, nS, nM, nE, nL, nT, nB, iT, iN, iE, and_self, SR, SV, eInt, encApiWord]
        cases h
        simp only [↓reduceIte, reduceCtorEq, nA, nE, nL, and_self, and_true, true_and, SL, eInt, encApiWord, Tryd.results47, qr168]
      ·intro v171 qd169
       refine Mir.seqK ?_
       refine Mir.region fun e h => ?_
       simp only [↓reduceIte, reduceCtorEq, nA, nS, nM, nE, nL, nT, nB, iT, iN, iE, and_self, SR, SV, qd169, eInt, encApiWord]
       refine Mir.use (e := e) ?_ h
       refine Mir.seqK ?_
       refine Mir.condF rfl ?_
       refine Mir.exit fun e h => ?_
       cases h
       simp only [↓reduceIte, reduceCtorEq, nA, nE, nL, and_self, and_true, true_and, SL, eInt, encApiWord, Tryd.results47]
     ·intro v152
      refine Mir.toK ?_
      refine Mir.seqK ?_
      refine Mir.region fun e h => ?_
      simp only [↓reduceIte, reduceCtorEq, nA, nS, nM, nE, nL, nT, nB, iT, iN, iE, and_self, SR, SV, eInt, encApiWord]
      refine Mir.use (e := e) ?_ h
      refine Mir.ret fun e h => ?_
      cases h
      simp only [↓reduceIte, reduceCtorEq, nA, nE, nL, and_self, and_true, true_and, SL, eInt, encApiWord, Tryd.results47]

def md_Group (a0 : Int) : Option Int :=
  bindO (if (a0 == 0) = true then
        some (a0 == 0)
      else
        if (a0 == 1000) = true then
          some (a0 == 1000)
        else
          if (a0 == 2000) = true then
            some (a0 == 2000)
          else
            if (a0 == 3000) = true then
              some (a0 == 3000)
            else
              if (a0 == 80000) = true then
                some (a0 == 80000)
              else
                if (a0 == 81000) = true then
                  some (a0 == 81000)
                else
                  if (a0 == 82000) = true then
                    some (a0 == 82000)
                  else
                    some (a0 == 83000)) fun (v106 : Bool) =>
  if v106 = true then
    some 1
  else
    bindO (if (a0 == 90000) = true then
          some (a0 == 90000)
        else
          some (a0 == 91000)) fun (v111 : Bool) =>
    if v111 = true then
      some 2
    else
      bindO (if (a0 == 54000) = true then
            some (a0 == 54000)
          else
            if (a0 == 55000) = true then
              some (a0 == 55000)
            else
              if (a0 == 56000) = true then
                some (a0 == 56000)
              else
                if (a0 == 57000) = true then
                  some (a0 == 57000)
                else
                  if (a0 == 58000) = true then
                    some (a0 == 58000)
                  else
                    some (a0 == 59000)) fun (v115 : Bool) =>
      if v115 = true then
        some 3
      else
        bindO (if (a0 == 43000) = true then
              some (a0 == 43000)
            else
              some (a0 == 49000)) fun (v118 : Bool) =>
        if v118 = true then
          some 4
        else
          bindO (if (a0 == 98000) = true then
                some (a0 == 98000)
              else
                some (a0 == 99000)) fun (v120 : Bool) =>
          if v120 = true then
            some 5
          else
            some 0
set_option maxHeartbeats 8000000 in
theorem md_Group_spec {a0 : Int} {y : Int} (h : md_Group a0 = some y) : Spec gP 68 [.d (.int .i64 a0)] (.d (.int .i64 y)) := by
  refine spec_mir Tryd.func68 rfl (by kernel_rfl) (by kernel_rfl) (fun y : Int => .d (.int .i64 y)) ?_ h
  unfold md_Group
  simp only [List.replicate, List.length, nS, nA, Tryd.ntmps68, SV]
  refine Mir.seqK ?_
  refine Mir.region fun e h => ?_
  simp only [↓reduceIte, reduceCtorEq, nA, nS, nM, nE, nL, nT, nB, iT, iN, iE, and_self, SR, SV]
  refine Mir.use (e := e) ?_ h
  refine Mir.seqK ?_
  refine Mir.seqK ?_
  refine Mir.region fun e h => ?_
  simp only [↓reduceIte, reduceCtorEq, nA, nS, nM, nE, nL, nT, nB, iT, iN, iE, and_self, SR, SV]
  refine Mir.use (e := e) ?_ h
  refine Mir.block ?_
  refine Mir.seqK ?_
  refine Mir.seqK ?_
  refine Mir.region fun e h => ?_
  simp only [↓reduceIte, reduceCtorEq, nA, nS, nM, nE, nL, nT, nB, iT, iN, iE, and_self, SR, SV]
  refine Mir.use (e := e) ?_ h
  refine Mir.joinO (fun v106 : Bool => [U, U, U, .d (.int .i64 a0), .d (.bool v106), U, U, U, U, U, U, U, U, U, U, U, U, U, U, U, U, U, U, U, U, U, U, U, U]) (fun v106 : Bool => ⟨[], []⟩) (fun _ => rfl) ?_ ?_
  ·refine Mir.cond rfl (fun hb43 => ?_) (fun hb43 => ?_)
   ·refine Mir.skip fun e h => ?_
    cases h
    simp only [↓reduceIte, reduceCtorEq, nA, nE, nL, and_self, and_true, true_and, SL, Tryd.results68]
   ·refine Mir.seqK ?_
    refine Mir.region fun e h => ?_
    simp only [↓reduceIte, reduceCtorEq, nA, nS, nM, nE, nL, nT, nB, iT, iN, iE, and_self, SR, SV]
    refine Mir.use (e := e) ?_ h
    refine Mir.cond rfl (fun hb44 => ?_) (fun hb44 => ?_)
    ·refine Mir.skip fun e h => ?_
     cases h
     simp only [↓reduceIte, reduceCtorEq, nA, nE, nL, and_self, and_true, true_and, SL, Tryd.results68]
    ·refine Mir.seqK ?_
     refine Mir.region fun e h => ?_
     simp only [↓reduceIte, reduceCtorEq, nA, nS, nM, nE, nL, nT, nB, iT, iN, iE, and_self, SR, SV]
     refine Mir.use (e := e) ?_ h
     refine Mir.cond rfl (fun hb45 => ?_) (fun hb45 => ?_)
     ·refine Mir.skip fun e h => ?_
      cases h
      simp only [↓reduceIte, reduceCtorEq, nA, nE, nL, and_self, and_true, true_and, SL, Tryd.results68]
     ·refine Mir.seqK ?_
      refine Mir.region fun e h => ?_
      simp only [↓reduceIte, reduceCtorEq, nA, nS, nM, nE, nL, nT, nB, iT, iN, iE, and_self, SR, SV]
      refine Mir.use (e := e) ?_ h
      refine Mir.cond rfl (fun hb46 => ?_) (fun hb46 => ?_)
      ·refine Mir.skip fun e h => ?_
       cases h
       simp only [↓reduceIte, reduceCtorEq, nA, nE, nL, and_self, and_true, true_and, SL, Tryd.results68]
      ·refine Mir.seqK ?_
       refine Mir.region fun e h => ?_
       simp only [↓reduceIte, reduceCtorEq, nA, nS, nM, nE, nL, nT, nB, iT, iN, iE, and_self, SR, SV]
       refine Mir.use (e := e) ?_ h
       refine Mir.cond rfl (fun hb47 => ?_) (fun hb47 => ?_)
       ·refine Mir.skip fun e h => ?_
        cases h
        simp only [↓reduceIte, reduceCtorEq, nA, nE, nL, and_self, and_true, true_and, SL, Tryd.results68]
       ·refine Mir.seqK ?_
        refine Mir.region fun e h => ?_
        simp only [↓reduceIte, reduceCtorEq, nA, nS, nM, nE, nL, nT, nB, iT, iN, iE, and_self, SR, SV]
        refine Mir.use (e := e) ?_ h
        refine Mir.cond rfl (fun hb48 => ?_) (fun hb48 => ?_)
        ·refine Mir.skip fun e h => ?_
         cases h
         simp only [↓reduceIte, reduceCtorEq, nA, nE, nL, and_self, and_true, true_and, SL, Tryd.results68]
        ·refine Mir.seqK ?_
         refine Mir.region fun e h => ?_
         simp only [↓reduceIte, reduceCtorEq, nA, nS, nM, nE, nL, nT, nB, iT, iN, iE, and_self, SR, SV]
         refine Mir.use (e := e) ?_ h
         refine Mir.cond rfl (fun hb49 => ?_) (fun hb49 => ?_)
         ·refine Mir.skip fun e h => ?_
          cases h
          simp only [↓reduceIte, reduceCtorEq, nA, nE, nL, and_self, and_true, true_and, SL, Tryd.results68]
         ·refine Mir.region fun e h => ?_
          simp only [↓reduceIte, reduceCtorEq, nA, nS, nM, nE, nL, nT, nB, iT, iN, iE, and_self, SR, SV]
          cases h
          simp only [↓reduceIte, reduceCtorEq, nA, nE, nL, and_self, and_true, true_and, SL, Tryd.results68]
  ·intro v106
   refine Mir.toK ?_
   refine Mir.cond rfl (fun hb71 => ?_) (fun hb71 => ?_)
   ·refine Mir.seqK ?_
    refine Mir.region fun e h => ?_
    simp only [↓reduceIte, reduceCtorEq, nA, nS, nM, nE, nL, nT, nB, iT, iN, iE, and_self, SR, SV]
    refine Mir.use (e := e) ?_ h
    refine Mir.ret fun e h => ?_
    cases h
    simp only [↓reduceIte, reduceCtorEq, nA, nE, nL, and_self, and_true, true_and, SL, Tryd.results68]
   ·refine Mir.seqK ?_
    refine Mir.seqK ?_
    refine Mir.region fun e h => ?_
    simp only [↓reduceIte, reduceCtorEq, nA, nS, nM, nE, nL, nT, nB, iT, iN, iE, and_self, SR, SV]
    refine Mir.use (e := e) ?_ h
    refine Mir.joinO (fun v111 : Bool => [U, U, U, .d (.int .i64 a0), U, U, U, U, U, U, U, U, U, .d (.bool v111), U, U, U, U, U, U, U, U, U, U, U, U, U, U, U]) (fun v111 : Bool => ⟨[], []⟩) (fun _ => rfl) ?_ ?_
    ·refine Mir.cond rfl (fun hb73 => ?_) (fun hb73 => ?_)
     ·refine Mir.skip fun e h => ?_
      cases h
      simp only [↓reduceIte, reduceCtorEq, nA, nE, nL, and_self, and_true, true_and, SL, Tryd.results68]
     ·refine Mir.region fun e h => ?_
      simp only [↓reduceIte, reduceCtorEq, nA, nS, nM, nE, nL, nT, nB, iT, iN, iE, and_self, SR, SV]
      cases h
      simp only [↓reduceIte, reduceCtorEq, nA, nE, nL, and_self, and_true, true_and, SL, Tryd.results68]
    ·intro v111
     refine Mir.toK ?_
     refine Mir.cond rfl (fun hb92 => ?_) (fun hb92 => ?_)
     ·refine Mir.seqK ?_
      refine Mir.region fun e h => ?_
      simp only [↓reduceIte, reduceCtorEq, nA, nS, nM, nE, nL, nT, nB, iT, iN, iE, and_self, SR, SV]
      refine Mir.use (e := e) ?_ h
      refine Mir.ret fun e h => ?_
      cases h
      simp only [↓reduceIte, reduceCtorEq, nA, nE, nL, and_self, and_true, true_and, SL, Tryd.results68]
     ·refine Mir.seqK ?_
      refine Mir.seqK ?_
      refine Mir.region fun e h => ?_
      simp only [↓reduceIte, reduceCtorEq, nA, nS, nM, nE, nL, nT, nB, iT, iN, iE, and_self, SR, SV]
      refine Mir.use (e := e) ?_ h
      refine Mir.joinO (fun v115 : Bool => [U, U, U, .d (.int .i64 a0), U, U, U, U, U, U, U, U, U, U, U, U, .d (.bool v115), U, U, U, U, U, U, U, U, U, U, U, U]) (fun v115 : Bool => ⟨[], []⟩) (fun _ => rfl) ?_ ?_
      ·refine Mir.cond rfl (fun hb98 => ?_) (fun hb98 => ?_)
       ·refine Mir.skip fun e h => ?_
        cases h
        simp only [↓reduceIte, reduceCtorEq, nA, nE, nL, and_self, and_true, true_and, SL, Tryd.results68]
       ·refine Mir.seqK ?_
        refine Mir.region fun e h => ?_
        simp only [↓reduceIte, reduceCtorEq, nA, nS, nM, nE, nL, nT, nB, iT, iN, iE, and_self, SR, SV]
        refine Mir.use (e := e) ?_ h
        refine Mir.cond rfl (fun hb99 => ?_) (fun hb99 => ?_)
        ·refine Mir.skip fun e h => ?_
         cases h
         simp only [↓reduceIte, reduceCtorEq, nA, nE, nL, and_self, and_true, true_and, SL, Tryd.results68]
        ·refine Mir.seqK ?_
         refine Mir.region fun e h => ?_
         simp only [↓reduceIte, reduceCtorEq, nA, nS, nM, nE, nL, nT, nB, iT, iN, iE, and_self, SR, SV]
         refine Mir.use (e := e) ?_ h
         refine Mir.cond rfl (fun hb100 => ?_) (fun hb100 => ?_)
         ·refine Mir.skip fun e h => ?_
          cases h
          simp only [↓reduceIte, reduceCtorEq, nA, nE, nL, and_self, and_true, true_and, SL, Tryd.results68]
         ·refine Mir.seqK ?_
          refine Mir.region fun e h => ?_
          simp only [↓reduceIte, reduceCtorEq, nA, nS, nM, nE, nL, nT, nB, iT, iN, iE, and_self, SR, SV]
          refine Mir.use (e := e) ?_ h
          refine Mir.cond rfl (fun hb101 => ?_) (fun hb101 => ?_)
          ·refine Mir.skip fun e h => ?_
           cases h
           simp only [↓reduceIte, reduceCtorEq, nA, nE, nL, and_self, and_true, true_and, SL, Tryd.results68]
          ·refine Mir.seqK ?_
           refine Mir.region fun e h => ?_
           simp only [↓reduceIte, reduceCtorEq, nA, nS, nM, nE, nL, nT, nB, iT, iN, iE, and_self, SR, SV]
           refine Mir.use (e := e) ?_ h
           refine Mir.cond rfl (fun hb102 => ?_) (fun hb102 => ?_)
           ·refine Mir.skip fun e h => ?_
            cases h
            simp only [↓reduceIte, reduceCtorEq, nA, nE, nL, and_self, and_true, true_and, SL, Tryd.results68]
           ·refine Mir.region fun e h => ?_
            simp only [↓reduceIte, reduceCtorEq, nA, nS, nM, nE, nL, nT, nB, iT, iN, iE, and_self, SR, SV]
            cases h
            simp only [↓reduceIte, reduceCtorEq, nA, nE, nL, and_self, and_true, true_and, SL, Tryd.results68]
      ·intro v115
       refine Mir.toK ?_
       refine Mir.cond rfl (fun hb110 => ?_) (fun hb110 => ?_)
       ·refine Mir.seqK ?_
        refine Mir.region fun e h => ?_
        simp only [↓reduceIte, reduceCtorEq, nA, nS, nM, nE, nL, nT, nB, iT, iN, iE, and_self, SR, SV]
        refine Mir.use (e := e) ?_ h
        refine Mir.ret fun e h => ?_
        cases h
        simp only [↓reduceIte, reduceCtorEq, nA, nE, nL, and_self, and_true, true_and, SL, Tryd.results68]
       ·refine Mir.seqK ?_
        refine Mir.seqK ?_
        refine Mir.region fun e h => ?_
        simp only [↓reduceIte, reduceCtorEq, nA, nS, nM, nE, nL, nT, nB, iT, iN, iE, and_self, SR, SV]
        refine Mir.use (e := e) ?_ h
        refine Mir.joinO (fun v118 : Bool => [U, U, U, .d (.int .i64 a0), U, U, U, U, U, U, U, U, U, U, U, U, U, U, U, U, U, U, U, .d (.bool v118), U, U, U, U, U]) (fun v118 : Bool => ⟨[], []⟩) (fun _ => rfl) ?_ ?_
        ·refine Mir.cond rfl (fun hb112 => ?_) (fun hb112 => ?_)
         ·refine Mir.skip fun e h => ?_
          cases h
          simp only [↓reduceIte, reduceCtorEq, nA, nE, nL, and_self, and_true, true_and, SL, Tryd.results68]
         ·refine Mir.region fun e h => ?_
          simp only [↓reduceIte, reduceCtorEq, nA, nS, nM, nE, nL, nT, nB, iT, iN, iE, and_self, SR, SV]
          cases h
          simp only [↓reduceIte, reduceCtorEq, nA, nE, nL, and_self, and_true, true_and, SL, Tryd.results68]
        ·intro v118
         refine Mir.toK ?_
         refine Mir.cond rfl (fun hb117 => ?_) (fun hb117 => ?_)
         ·refine Mir.seqK ?_
          refine Mir.region fun e h => ?_
          simp only [↓reduceIte, reduceCtorEq, nA, nS, nM, nE, nL, nT, nB, iT, iN, iE, and_self, SR, SV]
          refine Mir.use (e := e) ?_ h
          refine Mir.ret fun e h => ?_
          cases h
          simp only [↓reduceIte, reduceCtorEq, nA, nE, nL, and_self, and_true, true_and, SL, Tryd.results68]
         ·refine Mir.seqK ?_
          refine Mir.seqK ?_
          refine Mir.region fun e h => ?_
          simp only [↓reduceIte, reduceCtorEq, nA, nS, nM, nE, nL, nT, nB, iT, iN, iE, and_self, SR, SV]
          refine Mir.use (e := e) ?_ h
          refine Mir.joinO (fun v120 : Bool => [U, U, U, U, U, U, U, U, U, U, U, U, U, U, U, U, U, U, U, U, U, U, U, U, U, U, .d (.bool v120), U, U]) (fun v120 : Bool => ⟨[], []⟩) (fun _ => rfl) ?_ ?_
          ·refine Mir.cond rfl (fun hb119 => ?_) (fun hb119 => ?_)
           ·refine Mir.skip fun e h => ?_
            cases h
            simp only [↓reduceIte, reduceCtorEq, nA, nE, nL, and_self, and_true, true_and, SL, Tryd.results68]
           ·refine Mir.region fun e h => ?_
            simp only [↓reduceIte, reduceCtorEq, nA, nS, nM, nE, nL, nT, nB, iT, iN, iE, and_self, SR, SV]
            cases h
            simp only [↓reduceIte, reduceCtorEq, nA, nE, nL, and_self, and_true, true_and, SL, Tryd.results68]
          ·intro v120
           refine Mir.toK ?_
           refine Mir.cond rfl (fun hb121 => ?_) (fun hb121 => ?_)
           ·refine Mir.seqK ?_
            refine Mir.region fun e h => ?_
            simp only [↓reduceIte, reduceCtorEq, nA, nS, nM, nE, nL, nT, nB, iT, iN, iE, and_self, SR, SV]
            refine Mir.use (e := e) ?_ h
            refine Mir.ret fun e h => ?_
            cases h
            simp only [↓reduceIte, reduceCtorEq, nA, nE, nL, and_self, and_true, true_and, SL, Tryd.results68]
           ·refine Mir.skip ?_
            refine Mir.toB ?_
            refine Mir.toK ?_
            refine Mir.seqK ?_
            refine Mir.region fun e h => ?_
            simp only [↓reduceIte, reduceCtorEq, nA, nS, nM, nE, nL, nT, nB, iT, iN, iE, and_self, SR, SV]
            refine Mir.use (e := e) ?_ h
            refine Mir.ret fun e h => ?_
            cases h
            simp only [↓reduceIte, reduceCtorEq, nA, nE, nL, and_self, and_true, true_and, SL, Tryd.results68]

def md_Check (a0 : ApiBlock) : Option Int :=
  bindX (guardO (okIdx a0.Words) (
      rangeX (fun (i232 : Nat) (e234 : ApiWord) (v233 : (List (Int × Bool)) × (List (Int × Bool))) =>
        bindX (bindX (if (e234.Letter == 71) = true then
                  bindO (md_Group e234.Value) fun (y247 : Int) =>
                  bindO (if (y247 == 0) = true then
                        some true
                      else
                        some ((mget v233.2 y247).getD false)) fun (v248 : Bool) =>
                  if v248 = true then
                    some (.ret (.ret (.ret (.ret 1))))
                  else
                    some (.ret (.go (v233.1, mput v233.2 y247 true)))
                else
                  if (e234.Letter == 70) = true then
                    if (decide (e234.Value < 0)) = true then
                      some (.ret (.ret (.ret (.ret 1))))
                    else
                      some (.go ())
                  else
                    bindO (if (e234.Letter == 84) = true then
                          some (e234.Letter == 84)
                        else
                          some (e234.Letter == 72)) fun (v249 : Bool) =>
                    if v249 = true then
                      if ((decide (e234.Value < 0)) || ((Int.tmod e234.Value 1000) != 0)) = true then
                        some (.ret (.ret (.ret (.ret 1))))
                      else
                        some (.go ())
                    else
                      some (.go ())) fun (v246 : Unit) =>
            if ((mget v233.1 e234.Letter).getD false) = true then
              some (.ret (.ret (.ret 1)))
            else
              some (.go (mput v233.1 e234.Letter true, v233.2))) fun (v242 : (List (Int × Bool)) × (List (Int × Bool))) =>
        some (.go (v242.1, v242.2))) (fun (v233 : (List (Int × Bool)) × (List (Int × Bool))) => some (.go (v233.1, v233.2))) a0.Words 0 ([], []))) fun (v175 : (List (Int × Bool)) × (List (Int × Bool))) =>
  some 0
set_option maxHeartbeats 8000000 in
theorem md_Check_spec {a0 : ApiBlock} {y : Int} (h : md_Check a0 = some y) : Spec gP 48 [.agg [.d (.bool a0.Skip), .d (.list (List.map encApiWord a0.Words)), .d (.str a0.Comment)]] (.d (.int .i64 y)) := by
  refine spec_mir Tryd.func48 rfl (by kernel_rfl) (by kernel_rfl) (fun y : Int => .d (.int .i64 y)) ?_ h
  unfold md_Check
  simp only [List.replicate, List.length, nS, nA, Tryd.ntmps48, SV]
  refine Mir.seqK ?_
  refine Mir.region fun e h => ?_
  simp only [↓reduceIte, reduceCtorEq, nA, nS, nM, nE, nL, nT, nB, iT, iN, iE, and_self, SR, SV, encApiWord]
  refine Mir.use (e := e) ?_ h
  refine Mir.seqK ?_
  refine Mir.regionW fun e h => ?_
  refine regW.alt 0 rfl ?_
  simp only [↓reduceIte, reduceCtorEq, nA, nS, nM, nE, nL, nT, nB, iT, iN, iE, and_self, SR, SV, w_none, w_eq, and_true, true_and, tkS, tk0, tkN, dpS, dp0, encApiWord]
  refine alt_makeMap .u8 ?_
  refine regW.of ?_
  simp only [↓reduceIte, reduceCtorEq, nA, nS, nM, nE, nL, nT, nB, iT, iN, iE, and_self, SR, SV, w_none, w_eq, and_true, true_and, tkS, tk0, tkN, dpS, dp0, xMN, encApiWord]
  refine Mir.use (e := e) ?_ h
  refine Mir.seqK ?_
  refine Mir.regionW fun e h => ?_
  refine regW.alt 0 rfl ?_
  simp only [↓reduceIte, reduceCtorEq, nA, nS, nM, nE, nL, nT, nB, iT, iN, iE, and_self, SR, SV, w_none, w_eq, and_true, true_and, tkS, tk0, tkN, dpS, dp0, encApiWord]
  refine alt_makeMap .i64 ?_
  refine regW.of ?_
  simp only [↓reduceIte, reduceCtorEq, nA, nS, nM, nE, nL, nT, nB, iT, iN, iE, and_self, SR, SV, w_none, w_eq, and_true, true_and, tkS, tk0, tkN, dpS, dp0, xMN, encApiWord]
  refine Mir.use (e := e) ?_ h
  refine Mir.seqK ?_
  refine Mir.seqK ?_
  refine Mir.region fun e h => ?_
  simp only [↓reduceIte, reduceCtorEq, nA, nS, nM, nE, nL, nT, nB, iT, iN, iE, and_self, SR, SV, fld_42_1, sz_40, ag_40, und_40, encApiWord]
  refine Mir.use (e := e) ?_ h
  refine Mir.join (fun v175 : (List (Int × Bool)) × (List (Int × Bool)) => [U, U, U, U, U, U, U, U, U, U, U, U, U, U, U, U, U, U, U, U, U, U, U, U, U, U, U, U, U, U, U, U, U, U, U, U, U, U, U, U, U, U, U, U, U, U, U, U, U, U, U, U, U, U, U, U, U, U]) (fun v175 : (List (Int × Bool)) × (List (Int × Bool)) => ⟨[[.d (.bool a0.Skip), .d (.list (List.map encApiWord a0.Words)), .d (.str a0.Comment)], [.mapc .u8 (List.map (ekv evB) v175.1)], [.mapc .i64 (List.map (ekv evB) v175.2)]], []⟩) (fun _ => rfl) ?_ ?_
  ·refine Mir.block ?_
   refine Mir.guard fun qg394 => ?_
   refine Mir.range (fun (i232 : Nat) (v233 : (List (Int × Bool)) × (List (Int × Bool))) => [U, U, U, .mp 1, .mp 2, U, U, U, U, U, U, .d (.list (List.map encApiWord a0.Words)), .d (.int .i64 (a0.Words.length : Int)), .d (.int .i64 (i232 : Int)), U, U, U, U, U, U, U, U, U, U, U, U, U, U, U, U, U, U, U, U, U, U, U, U, U, U, U, U, U, U, U, U, U, U, U, U, U, U, U, U, U, U, U, U]) (fun (i232 : Nat) (v233 : (List (Int × Bool)) × (List (Int × Bool))) => ⟨[[.d (.bool a0.Skip), .d (.list (List.map encApiWord a0.Words)), .d (.str a0.Comment)], [.mapc .u8 (List.map (ekv evB) v233.1)], [.mapc .i64 (List.map (ekv evB) v233.2)]], []⟩) qg394 (fun _ _ => rfl) (by simp only [↓reduceIte, reduceCtorEq, nA, nE, nL, and_self, and_true, true_and, SL, encApiWord, (nr rfl : ((0 : Nat) : Int) = 0)]) (by simp only [↓reduceIte, reduceCtorEq, nA, nE, nL, and_self, and_true, true_and, SL, encApiWord, (nr rfl : ((0 : Nat) : Int) = 0)]) ?_ ?_
   ·intro i232 e234 v233 qr392
    refine Mir.seqK ?_
    refine Mir.region fun e h => ?_
    simp only [↓reduceIte, reduceCtorEq, nA, nS, nM, nE, nL, nT, nB, iT, iN, iE, and_self, SR, SV, qr392, encApiWord]
    refine Mir.use (e := e) ?_ h
    refine Mir.seqK ?_
    refine Mir.condT rfl ?_
    refine Mir.skip ?_
    refine Mir.toK ?_
    refine Mir.seqK ?_
    refine Mir.join (fun v242 : (List (Int × Bool)) × (List (Int × Bool)) => [U, U, U, .mp 1, .mp 2, U, U, U, U, U, U, .d (.list (List.map encApiWord a0.Words)), .d (.int .i64 (a0.Words.length : Int)), .d (.int .i64 (i232 : Int)), U, U, U, U, U, U, U, U, U, U, U, U, U, U, U, U, U, U, U, U, U, U, U, U, U, U, U, U, U, U, U, U, U, U, U, U, U, U, U, U, U, U, U, U]) (fun v242 : (List (Int × Bool)) × (List (Int × Bool)) => ⟨[[.d (.bool a0.Skip), .d (.list (List.map encApiWord a0.Words)), .d (.str a0.Comment)], [.mapc .u8 (List.map (ekv evB) v242.1)], [.mapc .i64 (List.map (ekv evB) v242.2)]], []⟩) (fun _ => rfl) ?_ ?_
    ·refine Mir.block ?_
     refine Mir.seqK ?_
     refine Mir.region fun e h => ?_
     simp only [↓reduceIte, reduceCtorEq, nA, nS, nM, nE, nL, nT, nB, iT, iN, iE, and_self, SR, SV, und_40, sz_38, qr392, Int.toNat_natCast, ag_38, zero_38, encApiWord]
     refine Mir.use (e := e) ?_ h
     refine Mir.seqK ?_
     refine Mir.seqK ?_
     refine Mir.region fun e h => ?_
     simp only [↓reduceIte, reduceCtorEq, nA, nS, nM, nE, nL, nT, nB, iT, iN, iE, and_self, SR, SV, fld_38_0, sz_5, ag_5, encApiWord]
     refine Mir.use (e := e) ?_ h
     refine Mir.join (fun v246 : Unit => [U, U, U, .mp 1, .mp 2, U, .ptr 3 0, U, U, U, U, .d (.list (List.map encApiWord a0.Words)), .d (.int .i64 (a0.Words.length : Int)), .d (.int .i64 (i232 : Int)), U, U, U, U, U, U, U, U, U, U, U, U, U, U, U, U, U, U, U, U, U, U, U, U, U, U, U, U, U, U, U, U, U, U, U, U, U, U, U, U, U, U, U, U]) (fun v246 : Unit => ⟨[[.d (.bool a0.Skip), .d (.list (List.map encApiWord a0.Words)), .d (.str a0.Comment)], [.mapc .u8 (List.map (ekv evB) v233.1)], [.mapc .i64 (List.map (ekv evB) v233.2)], [.d (.int .u8 e234.Letter), .d (.int .i64 e234.Value)]], []⟩) (fun _ => rfl) ?_ ?_
     ·refine Mir.block ?_
      refine Mir.seqK ?_
      refine Mir.region fun e h => ?_
      simp only [↓reduceIte, reduceCtorEq, nA, nS, nM, nE, nL, nT, nB, iT, iN, iE, and_self, SR, SV, encApiWord]
      refine Mir.use (e := e) ?_ h
      refine Mir.cond rfl (fun hb433 => ?_) (fun hb433 => ?_)
      ·refine Mir.seqK ?_
       refine Mir.bind fun y247 hy434 => ?_
       refine Mir.region fun e h => ?_
       simp only [↓reduceIte, reduceCtorEq, nA, nS, nM, nE, nL, nT, nB, iT, iN, iE, and_self, SR, SV, fld_38_1, sz_2, ag_2, encApiWord]
       refine SpecS.by (md_Group_spec hy434) (by simp only [↓reduceIte, reduceCtorEq, nA, nE, nL, and_self, and_true, true_and, SL, encApiWord]) ?_
       simp only [↓reduceIte, reduceCtorEq, nA, nS, nM, nE, nL, nT, nB, iT, iN, iE, and_self, SR, SV, encApiWord]
       refine Mir.use (e := e) ?_ h
       refine Mir.seqK ?_
       refine Mir.seqK ?_
       refine Mir.joinO (fun v248 : Bool => [U, U, U, .mp 1, .mp 2, U, U, .d (.int .i64 y247), U, U, U, .d (.list (List.map encApiWord a0.Words)), .d (.int .i64 (a0.Words.length : Int)), .d (.int .i64 (i232 : Int)), U, U, U, U, U, U, U, U, U, U, U, U, U, U, U, U, .d (.bool v248), U, U, U, U, U, U, U, U, U, U, U, U, U, U, U, U, U, U, U, U, U, U, U, U, U, U, U]) (fun v248 : Bool => ⟨[[.d (.bool a0.Skip), .d (.list (List.map encApiWord a0.Words)), .d (.str a0.Comment)], [.mapc .u8 (List.map (ekv evB) v233.1)], [.mapc .i64 (List.map (ekv evB) v233.2)], [.d (.int .u8 e234.Letter), .d (.int .i64 e234.Value)]], []⟩) (fun _ => rfl) ?_ ?_
       ·refine Mir.ite (fun hb435 => ?_) (fun hb435 => ?_)
        ·refine Mir.region fun e h => ?_
         simp only [↓reduceIte, reduceCtorEq, nA, nS, nM, nE, nL, nT, nB, iT, iN, iE, and_self, SR, SV, encApiWord, hb435]
         cases h
         simp only [↓reduceIte, reduceCtorEq, nA, nE, nL, and_self, and_true, true_and, SL, encApiWord, hb435]
        ·refine Mir.regionW fun e h => ?_
         refine regW.alt 5 rfl ?_
         simp only [↓reduceIte, reduceCtorEq, nA, nS, nM, nE, nL, nT, nB, iT, iN, iE, and_self, SR, SV, w_none, w_eq, and_true, true_and, tkS, tk0, tkN, dpS, dp0, encApiWord, hb435]
         refine alt_lookup rfl rfl rfl (by simp only [mapT, und_125, und_3]) zero_4 rfl ?_
         refine regW.of ?_
         simp only [↓reduceIte, reduceCtorEq, nA, nS, nM, nE, nL, nT, nB, iT, iN, iE, and_self, SR, SV, w_none, w_eq, and_true, true_and, tkS, tk0, tkN, dpS, dp0, mg_B, encApiWord, hb435]
         cases h
         simp only [↓reduceIte, reduceCtorEq, nA, nE, nL, and_self, and_true, true_and, SL, encApiWord, hb435]
       ·intro v248
        refine Mir.toK ?_
        refine Mir.cond rfl (fun hb437 => ?_) (fun hb437 => ?_)
        ·refine Mir.seqK ?_
         refine Mir.region fun e h => ?_
         simp only [↓reduceIte, reduceCtorEq, nA, nS, nM, nE, nL, nT, nB, iT, iN, iE, and_self, SR, SV, encApiWord]
         refine Mir.use (e := e) ?_ h
         refine Mir.ret fun e h => ?_
         cases h
         simp only [↓reduceIte, reduceCtorEq, nA, nE, nL, and_self, and_true, true_and, SL, encApiWord, Tryd.results48]
        ·refine Mir.skip ?_
         refine Mir.toK ?_
         refine Mir.seqK ?_
         refine Mir.regionW fun e h => ?_
         refine regW.alt 2 rfl ?_
         simp only [↓reduceIte, reduceCtorEq, nA, nS, nM, nE, nL, nT, nB, iT, iN, iE, and_self, SR, SV, w_none, w_eq, and_true, true_and, tkS, tk0, tkN, dpS, dp0, encApiWord]
         refine alt_mapUpdate (et := 4) rfl rfl rfl rfl (by simp only [mapT, und_125, und_3]) ?_
         refine regW.of ?_
         simp only [↓reduceIte, reduceCtorEq, nA, nS, nM, nE, nL, nT, nB, iT, iN, iE, and_self, SR, SV, w_none, w_eq, and_true, true_and, tkS, tk0, tkN, dpS, dp0, mp_B, encApiWord]
         refine Mir.use (e := e) ?_ h
         refine Mir.exit fun e h => ?_
         cases h
         simp only [↓reduceIte, reduceCtorEq, nA, nE, nL, and_self, and_true, true_and, SL, encApiWord, Tryd.results48]
      ·refine Mir.seqK ?_
       refine Mir.region fun e h => ?_
       simp only [↓reduceIte, reduceCtorEq, nA, nS, nM, nE, nL, nT, nB, iT, iN, iE, and_self, SR, SV, encApiWord]
       refine Mir.use (e := e) ?_ h
       refine Mir.cond rfl (fun hb438 => ?_) (fun hb438 => ?_)
       ·refine Mir.seqK ?_
        refine Mir.region fun e h => ?_
        simp only [↓reduceIte, reduceCtorEq, nA, nS, nM, nE, nL, nT, nB, iT, iN, iE, and_self, SR, SV, fld_38_1, sz_2, ag_2, encApiWord]
        refine Mir.use (e := e) ?_ h
        refine Mir.cond rfl (fun hb439 => ?_) (fun hb439 => ?_)
        ·refine Mir.seqK ?_
         refine Mir.region fun e h => ?_
         simp only [↓reduceIte, reduceCtorEq, nA, nS, nM, nE, nL, nT, nB, iT, iN, iE, and_self, SR, SV, encApiWord]
         refine Mir.use (e := e) ?_ h
         refine Mir.ret fun e h => ?_
         cases h
         simp only [↓reduceIte, reduceCtorEq, nA, nE, nL, and_self, and_true, true_and, SL, encApiWord, Tryd.results48]
        ·refine Mir.skip fun e h => ?_
         cases h
         simp only [↓reduceIte, reduceCtorEq, nA, nE, nL, and_self, and_true, true_and, SL, encApiWord, Tryd.results48]
       ·refine Mir.seqK ?_
        refine Mir.seqK ?_
        refine Mir.region fun e h => ?_
        simp only [↓reduceIte, reduceCtorEq, nA, nS, nM, nE, nL, nT, nB, iT, iN, iE, and_self, SR, SV, encApiWord]
        refine Mir.use (e := e) ?_ h
        refine Mir.joinO (fun v249 : Bool => [U, U, U, .mp 1, .mp 2, U, .ptr 3 0, U, U, U, U, .d (.list (List.map encApiWord a0.Words)), .d (.int .i64 (a0.Words.length : Int)), .d (.int .i64 (i232 : Int)), U, U, U, U, U, U, U, U, U, U, U, U, U, U, U, U, U, U, U, U, U, U, U, U, .d (.bool v249), U, U, U, U, U, U, U, U, U, U, U, U, U, U, U, U, U, U, U]) (fun v249 : Bool => ⟨[[.d (.bool a0.Skip), .d (.list (List.map encApiWord a0.Words)), .d (.str a0.Comment)], [.mapc .u8 (List.map (ekv evB) v233.1)], [.mapc .i64 (List.map (ekv evB) v233.2)], [.d (.int .u8 e234.Letter), .d (.int .i64 e234.Value)]], []⟩) (fun _ => rfl) ?_ ?_
        ·refine Mir.cond rfl (fun hb441 => ?_) (fun hb441 => ?_)
         ·refine Mir.skip fun e h => ?_
          cases h
          simp only [↓reduceIte, reduceCtorEq, nA, nE, nL, and_self, and_true, true_and, SL, encApiWord, Tryd.results48]
         ·refine Mir.region fun e h => ?_
          simp only [↓reduceIte, reduceCtorEq, nA, nS, nM, nE, nL, nT, nB, iT, iN, iE, and_self, SR, SV, encApiWord]
          cases h
          simp only [↓reduceIte, reduceCtorEq, nA, nE, nL, and_self, and_true, true_and, SL, encApiWord, Tryd.results48]
        ·intro v249
         refine Mir.toK ?_
         refine Mir.cond rfl (fun hb442 => ?_) (fun hb442 => ?_)
         ·refine Mir.seqK ?_
          refine Mir.joinV [U, U, U, .mp 1, .mp 2, U, .ptr 3 0, U, U, U, U, .d (.list (List.map encApiWord a0.Words)), .d (.int .i64 (a0.Words.length : Int)), .d (.int .i64 (i232 : Int)), U, U, U, U, U, U, U, U, U, U, U, U, U, U, U, U, U, U, U, U, U, U, U, U, U, U, U, U, U, U, U, U, U, U, U, .d (.bool ((decide (e234.Value < 0)) || ((Int.tmod e234.Value 1000) != 0))), U, U, U, U, U, U, U, U] ⟨[[.d (.bool a0.Skip), .d (.list (List.map encApiWord a0.Words)), .d (.str a0.Comment)], [.mapc .u8 (List.map (ekv evB) v233.1)], [.mapc .i64 (List.map (ekv evB) v233.2)], [.d (.int .u8 e234.Letter), .d (.int .i64 e234.Value)]], []⟩ rfl ?_ ?_
          ·refine SWs.region ?_
           rcases Bool.eq_false_or_eq_true (decide (e234.Value < 0)) with hb443 | hb443
           ·simp only [↓reduceIte, reduceCtorEq, nA, nS, nM, nE, nL, nT, nB, iT, iN, iE, and_self, SR, SV, SL, Bool.true_and, Bool.false_and, Bool.true_or, Bool.false_or, Bool.or_true, Bool.or_false, Bool.and_true, Bool.and_false, Bool.not_true, Bool.not_false, fld_38_1, sz_2, ag_2, hb443, encApiWord]
           ·simp only [↓reduceIte, reduceCtorEq, nA, nS, nM, nE, nL, nT, nB, iT, iN, iE, and_self, SR, SV, SL, Bool.true_and, Bool.false_and, Bool.true_or, Bool.false_or, Bool.or_true, Bool.or_false, Bool.and_true, Bool.and_false, Bool.not_true, Bool.not_false, fld_38_1, sz_2, ag_2, hb443, encApiWord]
          ·refine Mir.toK ?_
           refine Mir.cond rfl (fun hb444 => ?_) (fun hb444 => ?_)
           ·refine Mir.seqK ?_
            refine Mir.region fun e h => ?_
            simp only [↓reduceIte, reduceCtorEq, nA, nS, nM, nE, nL, nT, nB, iT, iN, iE, and_self, SR, SV, encApiWord]
            refine Mir.use (e := e) ?_ h
            refine Mir.ret fun e h => ?_
            cases h
            simp only [↓reduceIte, reduceCtorEq, nA, nE, nL, and_self, and_true, true_and, SL, encApiWord, Tryd.results48]
           ·refine Mir.skip fun e h => ?_
            cases h
            simp only [↓reduceIte, reduceCtorEq, nA, nE, nL, and_self, and_true, true_and, SL, encApiWord, Tryd.results48]
         ·refine Mir.skip fun e h => ?_
          cases h
          simp only [↓reduceIte, reduceCtorEq, nA, nE, nL, and_self, and_true, true_and, SL, encApiWord, Tryd.results48]
     ·intro v246
      refine Mir.toK ?_
      refine Mir.seqK ?_
      refine Mir.seqK ?_
      refine Mir.regionW fun e h => ?_
      refine regW.alt 3 rfl ?_
      simp only [↓reduceIte, reduceCtorEq, nA, nS, nM, nE, nL, nT, nB, iT, iN, iE, and_self, SR, SV, w_none, w_eq, and_true, true_and, tkS, tk0, tkN, dpS, dp0, fld_38_0, sz_5, ag_5, encApiWord]
      refine alt_lookup rfl rfl rfl (by simp only [mapT, und_124, und_5]) zero_4 rfl ?_
      refine regW.of ?_
      simp only [↓reduceIte, reduceCtorEq, nA, nS, nM, nE, nL, nT, nB, iT, iN, iE, and_self, SR, SV, w_none, w_eq, and_true, true_and, tkS, tk0, tkN, dpS, dp0, mg_B, encApiWord]
      refine Mir.use (e := e) ?_ h
      refine Mir.cond rfl (fun hb446 => ?_) (fun hb446 => ?_)
      ·refine Mir.seqK ?_
       refine Mir.region fun e h => ?_
       simp only [↓reduceIte, reduceCtorEq, nA, nS, nM, nE, nL, nT, nB, iT, iN, iE, and_self, SR, SV, encApiWord]
       refine Mir.use (e := e) ?_ h
       refine Mir.ret fun e h => ?_
       cases h
       simp only [↓reduceIte, reduceCtorEq, nA, nE, nL, and_self, and_true, true_and, SL, encApiWord, Tryd.results48]
      ·refine Mir.skip ?_
       refine Mir.toK ?_
       refine Mir.regionW fun e h => ?_
       refine regW.alt 3 rfl ?_
       simp only [↓reduceIte, reduceCtorEq, nA, nS, nM, nE, nL, nT, nB, iT, iN, iE, and_self, SR, SV, w_none, w_eq, and_true, true_and, tkS, tk0, tkN, dpS, dp0, fld_38_0, sz_5, ag_5, encApiWord]
       refine alt_mapUpdate (et := 4) rfl rfl rfl rfl (by simp only [mapT, und_124, und_5]) ?_
       refine regW.of ?_
       simp only [↓reduceIte, reduceCtorEq, nA, nS, nM, nE, nL, nT, nB, iT, iN, iE, and_self, SR, SV, w_none, w_eq, and_true, true_and, tkS, tk0, tkN, dpS, dp0, mp_B, encApiWord]
       cases h
       simp only [↓reduceIte, reduceCtorEq, nA, nE, nL, and_self, and_true, true_and, SL, encApiWord, Tryd.results48]
    ·intro v242
     refine Mir.toK ?_
     refine Mir.region fun e h => ?_
     simp only [↓reduceIte, reduceCtorEq, nA, nS, nM, nE, nL, nT, nB, iT, iN, iE, and_self, SR, SV, encApiWord]
     cases h
     simp only [↓reduceIte, reduceCtorEq, nA, nE, nL, and_self, and_true, true_and, SL, encApiWord, Tryd.results48, qr392]
   ·intro v233 qd393
    refine Mir.seqK ?_
    refine Mir.region fun e h => ?_
    simp only [↓reduceIte, reduceCtorEq, nA, nS, nM, nE, nL, nT, nB, iT, iN, iE, and_self, SR, SV, qd393, encApiWord]
    refine Mir.use (e := e) ?_ h
    refine Mir.seqK ?_
    refine Mir.condF rfl ?_
    refine Mir.exit fun e h => ?_
    cases h
    simp only [↓reduceIte, reduceCtorEq, nA, nE, nL, and_self, and_true, true_and, SL, encApiWord, Tryd.results48]
  ·intro v175
   refine Mir.toK ?_
   refine Mir.seqK ?_
   refine Mir.region fun e h => ?_
   simp only [↓reduceIte, reduceCtorEq, nA, nS, nM, nE, nL, nT, nB, iT, iN, iE, and_self, SR, SV, encApiWord]
   refine Mir.use (e := e) ?_ h
   refine Mir.ret fun e h => ?_
   cases h
   simp only [↓reduceIte, reduceCtorEq, nA, nE, nL, and_self, and_true, true_and, SL, encApiWord, Tryd.results48]

def slices_Index_int64_int64 (a0 : (List Int)) (a1 : Int) : Option Int :=
  bindX (guardO (okIdx a0) (
      rangeX (fun (i127 : Nat) (e129 : Int) (v128 : Unit) =>
        if (a1 == e129) = true then
          some (.ret (.ret (i127 : Int)))
        else
          some (.go ())) (fun (v128 : Unit) => some (.go ())) a0 0 ())) fun (v115 : Unit) =>
  some (-1)
theorem slices_Index_int64_int64_spec {a0 : (List Int)} {a1 : Int} {y : Int} (h : slices_Index_int64_int64 a0 a1 = some y) : Spec gP 66 [.d (.list (List.map (eInt .i64) a0)), .d (.int .i64 a1)] (.d (.int .i64 y)) := by
  refine spec_mir Tryd.func66 rfl (by kernel_rfl) (by kernel_rfl) (fun y : Int => .d (.int .i64 y)) ?_ h
  unfold slices_Index_int64_int64
  simp only [List.replicate, List.length, nS, nA, Tryd.ntmps66, SV]
  refine Mir.seqK ?_
  refine Mir.region fun e h => ?_
  simp only [↓reduceIte, reduceCtorEq, nA, nS, nM, nE, nL, nT, nB, iT, iN, iE, and_self, SR, SV, eInt]
  refine Mir.use (e := e) ?_ h
  refine Mir.seqK ?_
  refine Mir.seqK ?_
  refine Mir.region fun e h => ?_
  simp only [↓reduceIte, reduceCtorEq, nA, nS, nM, nE, nL, nT, nB, iT, iN, iE, and_self, SR, SV, und_98, eInt]
  refine Mir.use (e := e) ?_ h
  refine Mir.join (fun v115 : Unit => [U, U, U, U, U, U, U, U, U, U, U, U, U, U, U, U, U, U, U]) (fun v115 : Unit => ⟨[], []⟩) (fun _ => rfl) ?_ ?_
  ·refine Mir.block ?_
   refine Mir.guard fun qg51 => ?_
   refine Mir.range (fun (i127 : Nat) (v128 : Unit) => [.d (.list (List.map (eInt .i64) a0)), .d (.int .i64 a1), U, U, U, U, U, .d (.int .i64 (a0.length : Int)), .d (.int .i64 (i127 : Int)), U, U, U, U, U, U, U, U, U, U]) (fun (i127 : Nat) (v128 : Unit) => ⟨[], []⟩) qg51 (fun _ _ => rfl) (by simp only [↓reduceIte, reduceCtorEq, nA, nE, nL, and_self, and_true, true_and, SL, eInt, (nr rfl : ((0 : Nat) : Int) = 0)]) (by simp only [↓reduceIte, reduceCtorEq, nA, nE, nL, and_self, and_true, true_and, SL, eInt, (nr rfl : ((0 : Nat) : Int) = 0)]) ?_ ?_
   ·intro i127 e129 v128 qr49
    refine Mir.seqK ?_
    refine Mir.region fun e h => ?_
    simp only [↓reduceIte, reduceCtorEq, nA, nS, nM, nE, nL, nT, nB, iT, iN, iE, and_self, SR, SV, qr49, eInt]
    refine Mir.use (e := e) ?_ h
    refine Mir.seqK ?_
    refine Mir.condT rfl ?_
    refine Mir.skip ?_
    refine Mir.toK ?_
    refine Mir.seqK ?_
    refine Mir.block ?_
    refine Mir.seqK ?_
    refine Mir.region fun e h => ?_
    simp only [↓reduceIte, reduceCtorEq, nA, nS, nM, nE, nL, nT, nB, iT, iN, iE, and_self, SR, SV, eInt]
    refine Mir.use (e := e) ?_ h
    refine Mir.seqK ?_
    refine Mir.region fun e h => ?_
    simp only [↓reduceIte, reduceCtorEq, nA, nS, nM, nE, nL, nT, nB, iT, iN, iE, and_self, SR, SV, und_98, sz_2, qr49, Int.toNat_natCast, ag_2, eInt]
    refine Mir.use (e := e) ?_ h
    refine Mir.cond rfl (fun hb54 => ?_) (fun hb54 => ?_)
    ·refine Mir.seqK ?_
     refine Mir.region fun e h => ?_
     simp only [↓reduceIte, reduceCtorEq, nA, nS, nM, nE, nL, nT, nB, iT, iN, iE, and_self, SR, SV, eInt]
     refine Mir.use (e := e) ?_ h
     refine Mir.ret fun e h => ?_
     cases h
     simp only [↓reduceIte, reduceCtorEq, nA, nE, nL, and_self, and_true, true_and, SL, eInt, Tryd.results66]
    ·refine Mir.skip ?_
     refine Mir.toB ?_
     refine Mir.toK ?_
     refine Mir.region fun e h => ?_
     simp only [↓reduceIte, reduceCtorEq, nA, nS, nM, nE, nL, nT, nB, iT, iN, iE, and_self, SR, SV, eInt]
     cases h
     simp only [↓reduceIte, reduceCtorEq, nA, nE, nL, and_self, and_true, true_and, SL, eInt, Tryd.results66, qr49]
   ·intro v128 qd50
    refine Mir.seqK ?_
    refine Mir.region fun e h => ?_
    simp only [↓reduceIte, reduceCtorEq, nA, nS, nM, nE, nL, nT, nB, iT, iN, iE, and_self, SR, SV, qd50, eInt]
    refine Mir.use (e := e) ?_ h
    refine Mir.seqK ?_
    refine Mir.condF rfl ?_
    refine Mir.exit fun e h => ?_
    cases h
    simp only [↓reduceIte, reduceCtorEq, nA, nE, nL, and_self, and_true, true_and, SL, eInt, Tryd.results66]
  ·intro v115
   refine Mir.toK ?_
   refine Mir.seqK ?_
   refine Mir.region fun e h => ?_
   simp only [↓reduceIte, reduceCtorEq, nA, nS, nM, nE, nL, nT, nB, iT, iN, iE, and_self, SR, SV, eInt]
   refine Mir.use (e := e) ?_ h
   refine Mir.ret fun e h => ?_
   cases h
   simp only [↓reduceIte, reduceCtorEq, nA, nE, nL, and_self, and_true, true_and, SL, eInt, Tryd.results66]

def slices_Contains_int64_int64 (a0 : (List Int)) (a1 : Int) : Option Bool :=
  bindO (slices_Index_int64_int64 a0 a1) fun (y101 : Int) =>
  some (decide (y101 ≥ 0))
theorem slices_Contains_int64_int64_spec {a0 : (List Int)} {a1 : Int} {y : Bool} (h : slices_Contains_int64_int64 a0 a1 = some y) : Spec gP 43 [.d (.list (List.map (eInt .i64) a0)), .d (.int .i64 a1)] (.d (.bool y)) := by
  refine spec_mir Tryd.func43 rfl (by kernel_rfl) (by kernel_rfl) (fun y : Bool => .d (.bool y)) ?_ h
  unfold slices_Contains_int64_int64
  simp only [List.replicate, List.length, nS, nA, Tryd.ntmps43, SV]
  refine Mir.seqK ?_
  refine Mir.region fun e h => ?_
  simp only [↓reduceIte, reduceCtorEq, nA, nS, nM, nE, nL, nT, nB, iT, iN, iE, and_self, SR, SV, eInt]
  refine Mir.use (e := e) ?_ h
  refine Mir.seqK ?_
  refine Mir.bind fun y101 hy1 => ?_
  refine Mir.region fun e h => ?_
  simp only [↓reduceIte, reduceCtorEq, nA, nS, nM, nE, nL, nT, nB, iT, iN, iE, and_self, SR, SV, eInt]
  refine SpecS.by (slices_Index_int64_int64_spec hy1) (by simp only [↓reduceIte, reduceCtorEq, nA, nE, nL, and_self, and_true, true_and, SL, eInt]) ?_
  simp only [↓reduceIte, reduceCtorEq, nA, nS, nM, nE, nL, nT, nB, iT, iN, iE, and_self, SR, SV, eInt]
  refine Mir.use (e := e) ?_ h
  refine Mir.ret fun e h => ?_
  cases h
  simp only [↓reduceIte, reduceCtorEq, nA, nE, nL, and_self, and_true, true_and, SL, eInt, Tryd.results43]

def inp_known (a0 : ApiBlock) : Option Bool :=
  bindX (guardO (okIdx a0.Words) (
      rangeX (fun (i162 : Nat) (e164 : ApiWord) (v163 : Unit) =>
        bindX (bindO (if (e164.Letter == 71) = true then
                  some (e164.Letter == 71)
                else
                  if (e164.Letter == 84) = true then
                    some (e164.Letter == 84)
                  else
                    if (e164.Letter == 70) = true then
                      some (e164.Letter == 70)
                    else
                      if (e164.Letter == 72) = true then
                        some (e164.Letter == 72)
                      else
                        if (e164.Letter == 78) = true then
                          some (e164.Letter == 78)
                        else
                          if (e164.Letter == 88) = true then
                            some (e164.Letter == 88)
                          else
                            if (e164.Letter == 89) = true then
                              some (e164.Letter == 89)
                            else
                              if (e164.Letter == 90) = true then
                                some (e164.Letter == 90)
                              else
                                if (e164.Letter == 73) = true then
                                  some (e164.Letter == 73)
                                else
                                  if (e164.Letter == 74) = true then
                                    some (e164.Letter == 74)
                                  else
                                    if (e164.Letter == 81) = true then
                                      some (e164.Letter == 81)
                                    else
                                      some (e164.Letter == 82)) fun (v168 : Bool) =>
            if v168 = true then
              some (.go ())
            else
              if (e164.Letter == 77) = true then
                bindO (slices_Contains_int64_int64 [0, 1000, 3000, 4000, 5000, 6000, 8000, 9000, 30000] e164.Value) fun (y169 : Bool) =>
                if (!y169) = true then
                  some (.ret (.ret (.ret false)))
                else
                  some (.go ())
              else
                if (e164.Letter == 83) = true then
                  if (decide (e164.Value < 0)) = true then
                    some (.ret (.ret (.ret false)))
                  else
                    some (.go ())
                else
                  some (.ret (.ret (.ret false)))) fun (v167 : Unit) =>
        some (.go ())) (fun (v163 : Unit) => some (.go ())) a0.Words 0 ())) fun (v135 : Unit) =>
  some true
set_option maxHeartbeats 8000000 in
theorem inp_known_spec {a0 : ApiBlock} {y : Bool} (h : inp_known a0 = some y) : Spec gP 49 [.agg [.d (.bool a0.Skip), .d (.list (List.map encApiWord a0.Words)), .d (.str a0.Comment)]] (.d (.bool y)) := by
  refine spec_mir Tryd.func49 rfl (by kernel_rfl) (by kernel_rfl) (fun y : Bool => .d (.bool y)) ?_ h
  unfold inp_known
  simp only [List.replicate, List.length, nS, nA, Tryd.ntmps49, SV]
  refine Mir.seqK ?_
  refine Mir.region fun e h => ?_
  simp only [↓reduceIte, reduceCtorEq, nA, nS, nM, nE, nL, nT, nB, iT, iN, iE, and_self, SR, SV, eInt, encApiWord]
  refine Mir.use (e := e) ?_ h
  refine Mir.seqK ?_
  refine Mir.seqK ?_
  refine Mir.region fun e h => ?_
  simp only [↓reduceIte, reduceCtorEq, nA, nS, nM, nE, nL, nT, nB, iT, iN, iE, and_self, SR, SV, fld_42_1, sz_40, ag_40, und_40, eInt, encApiWord]
  refine Mir.use (e := e) ?_ h
  refine Mir.join (fun v135 : Unit => [U, U, U, U, U, U, U, U, U, U, U, U, U, U, U, U, U, U, U, U, U, U, U, U, U, U, U, U, U, U, U, U, U, U, U, U, U, U, U, U]) (fun v135 : Unit => ⟨[[.d (.bool a0.Skip), .d (.list (List.map encApiWord a0.Words)), .d (.str a0.Comment)]], []⟩) (fun _ => rfl) ?_ ?_
  ·refine Mir.block ?_
   refine Mir.guard fun qg422 => ?_
   refine Mir.range (fun (i162 : Nat) (v163 : Unit) => [U, U, U, U, U, U, .d (.list (List.map encApiWord a0.Words)), .d (.int .i64 (a0.Words.length : Int)), .d (.int .i64 (i162 : Int)), U, U, U, U, U, U, U, U, U, U, U, U, U, U, U, U, U, U, U, U, U, U, U, U, U, U, U, U, U, U, U]) (fun (i162 : Nat) (v163 : Unit) => ⟨[[.d (.bool a0.Skip), .d (.list (List.map encApiWord a0.Words)), .d (.str a0.Comment)]], []⟩) qg422 (fun _ _ => rfl) (by simp only [↓reduceIte, reduceCtorEq, nA, nE, nL, and_self, and_true, true_and, SL, eInt, encApiWord, (nr rfl : ((0 : Nat) : Int) = 0)]) (by simp only [↓reduceIte, reduceCtorEq, nA, nE, nL, and_self, and_true, true_and, SL, eInt, encApiWord, (nr rfl : ((0 : Nat) : Int) = 0)]) ?_ ?_
   ·intro i162 e164 v163 qr420
    refine Mir.seqK ?_
    refine Mir.region fun e h => ?_
    simp only [↓reduceIte, reduceCtorEq, nA, nS, nM, nE, nL, nT, nB, iT, iN, iE, and_self, SR, SV, qr420, eInt, encApiWord]
    refine Mir.use (e := e) ?_ h
    refine Mir.seqK ?_
    refine Mir.condT rfl ?_
    refine Mir.skip ?_
    refine Mir.toK ?_
    refine Mir.seqK ?_
    refine Mir.join (fun v167 : Unit => [U, U, U, U, U, U, .d (.list (List.map encApiWord a0.Words)), .d (.int .i64 (a0.Words.length : Int)), .d (.int .i64 (i162 : Int)), U, U, U, U, U, U, U, U, U, U, U, U, U, U, U, U, U, U, U, U, U, U, U, U, U, U, U, U, U, U, U]) (fun v167 : Unit => ⟨[[.d (.bool a0.Skip), .d (.list (List.map encApiWord a0.Words)), .d (.str a0.Comment)]], []⟩) (fun _ => rfl) ?_ ?_
    ·refine Mir.block ?_
     refine Mir.seqK ?_
     refine Mir.region fun e h => ?_
     simp only [↓reduceIte, reduceCtorEq, nA, nS, nM, nE, nL, nT, nB, iT, iN, iE, and_self, SR, SV, und_40, sz_38, qr420, Int.toNat_natCast, ag_38, zero_38, eInt, encApiWord]
     refine Mir.use (e := e) ?_ h
     refine Mir.seqK ?_
     refine Mir.region fun e h => ?_
     simp only [↓reduceIte, reduceCtorEq, nA, nS, nM, nE, nL, nT, nB, iT, iN, iE, and_self, SR, SV, fld_38_0, sz_5, ag_5, eInt, encApiWord]
     refine Mir.use (e := e) ?_ h
     refine Mir.block ?_
     refine Mir.seqK ?_
     refine Mir.seqK ?_
     refine Mir.region fun e h => ?_
     simp only [↓reduceIte, reduceCtorEq, nA, nS, nM, nE, nL, nT, nB, iT, iN, iE, and_self, SR, SV, eInt, encApiWord]
     refine Mir.use (e := e) ?_ h
     refine Mir.joinO (fun v168 : Bool => [U, U, U, U, .ptr 1 0, U, .d (.list (List.map encApiWord a0.Words)), .d (.int .i64 (a0.Words.length : Int)), .d (.int .i64 (i162 : Int)), U, U, U, U, .d (.int .u8 e164.Letter), .d (.bool v168), U, U, U, U, U, U, U, U, U, U, U, U, U, U, U, U, U, U, U, U, U, U, U, U, U]) (fun v168 : Bool => ⟨[[.d (.bool a0.Skip), .d (.list (List.map encApiWord a0.Words)), .d (.str a0.Comment)], [.d (.int .u8 e164.Letter), .d (.int .i64 e164.Value)]], []⟩) (fun _ => rfl) ?_ ?_
     ·refine Mir.cond rfl (fun hb462 => ?_) (fun hb462 => ?_)
      ·refine Mir.skip fun e h => ?_
       cases h
       simp only [↓reduceIte, reduceCtorEq, nA, nE, nL, and_self, and_true, true_and, SL, eInt, encApiWord, Tryd.results49]
      ·refine Mir.seqK ?_
       refine Mir.region fun e h => ?_
       simp only [↓reduceIte, reduceCtorEq, nA, nS, nM, nE, nL, nT, nB, iT, iN, iE, and_self, SR, SV, eInt, encApiWord]
       refine Mir.use (e := e) ?_ h
       refine Mir.cond rfl (fun hb463 => ?_) (fun hb463 => ?_)
       ·refine Mir.skip fun e h => ?_
        cases h
        simp only [↓reduceIte, reduceCtorEq, nA, nE, nL, and_self, and_true, true_and, SL, eInt, encApiWord, Tryd.results49]
       ·refine Mir.seqK ?_
        refine Mir.region fun e h => ?_
        simp only [↓reduceIte, reduceCtorEq, nA, nS, nM, nE, nL, nT, nB, iT, iN, iE, and_self, SR, SV, eInt, encApiWord]
        refine Mir.use (e := e) ?_ h
        refine Mir.cond rfl (fun hb464 => ?_) (fun hb464 => ?_)
        ·refine Mir.skip fun e h => ?_
         cases h
         simp only [↓reduceIte, reduceCtorEq, nA, nE, nL, and_self, and_true, true_and, SL, eInt, encApiWord, Tryd.results49]
        ·refine Mir.seqK ?_
         refine Mir.region fun e h => ?_
         simp only [↓reduceIte, reduceCtorEq, nA, nS, nM, nE, nL, nT, nB, iT, iN, iE, and_self, SR, SV, eInt, encApiWord]
         refine Mir.use (e := e) ?_ h
         refine Mir.cond rfl (fun hb465 => ?_) (fun hb465 => ?_)
         ·refine Mir.skip fun e h => ?_
          cases h
          simp only [↓reduceIte, reduceCtorEq, nA, nE, nL, and_self, and_true, true_and, SL, eInt, encApiWord, Tryd.results49]
         ·refine Mir.seqK ?_
          refine Mir.region fun e h => ?_
          simp only [↓reduceIte, reduceCtorEq, nA, nS, nM, nE, nL, nT, nB, iT, iN, iE, and_self, SR, SV, eInt, encApiWord]
          refine Mir.use (e := e) ?_ h
          refine Mir.cond rfl (fun hb466 => ?_) (fun hb466 => ?_)
          ·refine Mir.skip fun e h => ?_
           cases h
           simp only [↓reduceIte, reduceCtorEq, nA, nE, nL, and_self, and_true, true_and, SL, eInt, encApiWord, Tryd.results49]
          ·refine Mir.seqK ?_
           refine Mir.region fun e h => ?_
           simp only [↓reduceIte, reduceCtorEq, nA, nS, nM, nE, nL, nT, nB, iT, iN, iE, and_self, SR, SV, eInt, encApiWord]
           refine Mir.use (e := e) ?_ h
           refine Mir.cond rfl (fun hb467 => ?_) (fun hb467 => ?_)
           ·refine Mir.skip fun e h => ?_
            cases h
            simp only [↓reduceIte, reduceCtorEq, nA, nE, nL, and_self, and_true, true_and, SL, eInt, encApiWord, Tryd.results49]
           ·refine Mir.seqK ?_
            refine Mir.region fun e h => ?_
            simp only [↓reduceIte, reduceCtorEq, nA, nS, nM, nE, nL, nT, nB, iT, iN, iE, and_self, SR, SV, eInt, encApiWord]
            refine Mir.use (e := e) ?_ h
            refine Mir.cond rfl (fun hb468 => ?_) (fun hb468 => ?_)
            ·refine Mir.skip fun e h => ?_
             cases h
             simp only [↓reduceIte, reduceCtorEq, nA, nE, nL, and_self, and_true, true_and, SL, eInt, encApiWord, Tryd.results49]
            ·refine Mir.seqK ?_
             refine Mir.region fun e h => ?_
             simp only [↓reduceIte, reduceCtorEq, nA, nS, nM, nE, nL, nT, nB, iT, iN, iE, and_self, SR, SV, eInt, encApiWord]
             refine Mir.use (e := e) ?_ h
             refine Mir.cond rfl (fun hb469 => ?_) (fun hb469 => ?_)
             ·refine Mir.skip fun e h => ?_
              cases h
              simp only [↓reduceIte, reduceCtorEq, nA, nE, nL, and_self, and_true, true_and, SL, eInt, encApiWord, Tryd.results49]
             ·refine Mir.seqK ?_
              refine Mir.region fun e h => ?_
              simp only [↓reduceIte, reduceCtorEq, nA, nS, nM, nE, nL, nT, nB, iT, iN, iE, and_self, SR, SV, eInt, encApiWord]
              refine Mir.use (e := e) ?_ h
              refine Mir.cond rfl (fun hb470 => ?_) (fun hb470 => ?_)
              ·refine Mir.skip fun e h => ?_
               cases h
               simp only [↓reduceIte, reduceCtorEq, nA, nE, nL, and_self, and_true, true_and, SL, eInt, encApiWord, Tryd.results49]
              ·refine Mir.seqK ?_
               refine Mir.region fun e h => ?_
               simp only [↓reduceIte, reduceCtorEq, nA, nS, nM, nE, nL, nT, nB, iT, iN, iE, and_self, SR, SV, eInt, encApiWord]
               refine Mir.use (e := e) ?_ h
               refine Mir.cond rfl (fun hb471 => ?_) (fun hb471 => ?_)
               ·refine Mir.skip fun e h => ?_
                cases h
                simp only [↓reduceIte, reduceCtorEq, nA, nE, nL, and_self, and_true, true_and, SL, eInt, encApiWord, Tryd.results49]
               ·refine Mir.seqK ?_
                refine Mir.region fun e h => ?_
                simp only [↓reduceIte, reduceCtorEq, nA, nS, nM, nE, nL, nT, nB, iT, iN, iE, and_self, SR, SV, eInt, encApiWord]
                refine Mir.use (e := e) ?_ h
                refine Mir.cond rfl (fun hb472 => ?_) (fun hb472 => ?_)
                ·refine Mir.skip fun e h => ?_
                 cases h
                 simp only [↓reduceIte, reduceCtorEq, nA, nE, nL, and_self, and_true, true_and, SL, eInt, encApiWord, Tryd.results49]
                ·refine Mir.region fun e h => ?_
                 simp only [↓reduceIte, reduceCtorEq, nA, nS, nM, nE, nL, nT, nB, iT, iN, iE, and_self, SR, SV, eInt, encApiWord]
                 cases h
                 simp only [↓reduceIte, reduceCtorEq, nA, nE, nL, and_self, and_true, true_and, SL, eInt, encApiWord, Tryd.results49]
     ·intro v168
      refine Mir.toK ?_
      refine Mir.cond rfl (fun hb473 => ?_) (fun hb473 => ?_)
      ·refine Mir.skip fun e h => ?_
       cases h
       simp only [↓reduceIte, reduceCtorEq, nA, nE, nL, and_self, and_true, true_and, SL, eInt, encApiWord, Tryd.results49]
      ·refine Mir.seqK ?_
       refine Mir.region fun e h => ?_
       simp only [↓reduceIte, reduceCtorEq, nA, nS, nM, nE, nL, nT, nB, iT, iN, iE, and_self, SR, SV, eInt, encApiWord]
       refine Mir.use (e := e) ?_ h
       refine Mir.cond rfl (fun hb474 => ?_) (fun hb474 => ?_)
       ·refine Mir.seqK ?_
        refine Mir.bind fun y169 hy475 => ?_
        refine Mir.region fun e h => ?_
        simp only [↓reduceIte, reduceCtorEq, nA, nS, nM, nE, nL, nT, nB, iT, iN, iE, and_self, SR, SV, ag_98, sz_98, glT, fld_38_1, sz_2, ag_2, eInt, encApiWord]
        refine SpecS.by (slices_Contains_int64_int64_spec hy475) (by simp only [↓reduceIte, reduceCtorEq, nA, nE, nL, and_self, and_true, true_and, SL, eInt, encApiWord]) ?_
        simp only [↓reduceIte, reduceCtorEq, nA, nS, nM, nE, nL, nT, nB, iT, iN, iE, and_self, SR, SV, eInt, encApiWord]
        refine Mir.use (e := e) ?_ h
        refine Mir.cond rfl (fun hb476 => ?_) (fun hb476 => ?_)
        ·refine Mir.seqK ?_
         refine Mir.region fun e h => ?_
         simp only [↓reduceIte, reduceCtorEq, nA, nS, nM, nE, nL, nT, nB, iT, iN, iE, and_self, SR, SV, eInt, encApiWord]
         refine Mir.use (e := e) ?_ h
         refine Mir.ret fun e h => ?_
         cases h
         simp only [↓reduceIte, reduceCtorEq, nA, nE, nL, and_self, and_true, true_and, SL, eInt, encApiWord, Tryd.results49]
        ·refine Mir.skip fun e h => ?_
         cases h
         simp only [↓reduceIte, reduceCtorEq, nA, nE, nL, and_self, and_true, true_and, SL, eInt, encApiWord, Tryd.results49]
       ·refine Mir.seqK ?_
        refine Mir.region fun e h => ?_
        simp only [↓reduceIte, reduceCtorEq, nA, nS, nM, nE, nL, nT, nB, iT, iN, iE, and_self, SR, SV, eInt, encApiWord]
        refine Mir.use (e := e) ?_ h
        refine Mir.cond rfl (fun hb477 => ?_) (fun hb477 => ?_)
        ·refine Mir.seqK ?_
         refine Mir.region fun e h => ?_
         simp only [↓reduceIte, reduceCtorEq, nA, nS, nM, nE, nL, nT, nB, iT, iN, iE, and_self, SR, SV, fld_38_1, sz_2, ag_2, eInt, encApiWord]
         refine Mir.use (e := e) ?_ h
         refine Mir.cond rfl (fun hb478 => ?_) (fun hb478 => ?_)
         ·refine Mir.seqK ?_
          refine Mir.region fun e h => ?_
          simp only [↓reduceIte, reduceCtorEq, nA, nS, nM, nE, nL, nT, nB, iT, iN, iE, and_self, SR, SV, eInt, encApiWord]
          refine Mir.use (e := e) ?_ h
          refine Mir.ret fun e h => ?_
          cases h
          simp only [↓reduceIte, reduceCtorEq, nA, nE, nL, and_self, and_true, true_and, SL, eInt, encApiWord, Tryd.results49]
         ·refine Mir.skip fun e h => ?_
          cases h
          simp only [↓reduceIte, reduceCtorEq, nA, nE, nL, and_self, and_true, true_and, SL, eInt, encApiWord, Tryd.results49]
        ·refine Mir.seqK ?_
         refine Mir.region fun e h => ?_
         simp only [↓reduceIte, reduceCtorEq, nA, nS, nM, nE, nL, nT, nB, iT, iN, iE, and_self, SR, SV, eInt, encApiWord]
         refine Mir.use (e := e) ?_ h
         refine Mir.ret fun e h => ?_
         cases h
         simp only [↓reduceIte, reduceCtorEq, nA, nE, nL, and_self, and_true, true_and, SL, eInt, encApiWord, Tryd.results49]
    ·intro v167
     refine Mir.toK ?_
     refine Mir.region fun e h => ?_
     simp only [↓reduceIte, reduceCtorEq, nA, nS, nM, nE, nL, nT, nB, iT, iN, iE, and_self, SR, SV, eInt, encApiWord]
     cases h
     simp only [↓reduceIte, reduceCtorEq, nA, nE, nL, and_self, and_true, true_and, SL, eInt, encApiWord, Tryd.results49, qr420]
   ·intro v163 qd421
    refine Mir.seqK ?_
    refine Mir.region fun e h => ?_
    simp only [↓reduceIte, reduceCtorEq, nA, nS, nM, nE, nL, nT, nB, iT, iN, iE, and_self, SR, SV, qd421, eInt, encApiWord]
    refine Mir.use (e := e) ?_ h
    refine Mir.seqK ?_
    refine Mir.condF rfl ?_
    refine Mir.exit fun e h => ?_
    cases h
    simp only [↓reduceIte, reduceCtorEq, nA, nE, nL, and_self, and_true, true_and, SL, eInt, encApiWord, Tryd.results49]
  ·intro v135
   refine Mir.toK ?_
   refine Mir.seqK ?_
   refine Mir.region fun e h => ?_
   simp only [↓reduceIte, reduceCtorEq, nA, nS, nM, nE, nL, nT, nB, iT, iN, iE, and_self, SR, SV, eInt, encApiWord]
   refine Mir.use (e := e) ?_ h
   refine Mir.ret fun e h => ?_
   cases h
   simp only [↓reduceIte, reduceCtorEq, nA, nE, nL, and_self, and_true, true_and, SL, eInt, encApiWord, Tryd.results49]

def md_put (a0 : ModalState) (a1 : ApiWord) : Option ModalState :=
  bindO (if (a1.Letter == 71) = true then
        bindO (bindO (md_Group a1.Value) fun (y104 : Int) =>
            guardO (decide (0 ≤ (IntKind.i64.wrap (y104 - 1)) ∧ (IntKind.i64.wrap (y104 - 1)) < 5)) (
            if ((IntKind.i64.wrap (y104 - 1)) == 0) = true then
              some (ModalState.mk a1.Value a0.Distance a0.Work a0.Length a0.Return a0.Feed a0.Tool a0.Offset)
            else
              if ((IntKind.i64.wrap (y104 - 1)) == 1) = true then
                some (ModalState.mk a0.Motion a1.Value a0.Work a0.Length a0.Return a0.Feed a0.Tool a0.Offset)
              else
                if ((IntKind.i64.wrap (y104 - 1)) == 2) = true then
                  some (ModalState.mk a0.Motion a0.Distance a1.Value a0.Length a0.Return a0.Feed a0.Tool a0.Offset)
                else
                  if ((IntKind.i64.wrap (y104 - 1)) == 3) = true then
                    some (ModalState.mk a0.Motion a0.Distance a0.Work a1.Value a0.Return a0.Feed a0.Tool a0.Offset)
                  else
                    some (ModalState.mk a0.Motion a0.Distance a0.Work a0.Length a1.Value a0.Feed a0.Tool a0.Offset))) fun (v105 : ModalState) =>
        some v105
      else
        if (a1.Letter == 70) = true then
          some (ModalState.mk a0.Motion a0.Distance a0.Work a0.Length a0.Return a1.Value a0.Tool a0.Offset)
        else
          if (a1.Letter == 84) = true then
            some (ModalState.mk a0.Motion a0.Distance a0.Work a0.Length a0.Return a0.Feed a1.Value a0.Offset)
          else
            if (a1.Letter == 72) = true then
              some (ModalState.mk a0.Motion a0.Distance a0.Work a0.Length a0.Return a0.Feed a0.Tool a1.Value)
            else
              some a0) fun (v103 : ModalState) =>
  some v103
theorem md_put_spec {a0 : ModalState} {a1 : ApiWord} {y : ModalState} (h : md_put a0 a1 = some y) : Spec gP 69 [.agg [.d (.int .i64 a0.Motion), .d (.int .i64 a0.Distance), .d (.int .i64 a0.Work), .d (.int .i64 a0.Length), .d (.int .i64 a0.Return), .d (.int .i64 a0.Feed), .d (.int .i64 a0.Tool), .d (.int .i64 a0.Offset)], .agg [.d (.int .u8 a1.Letter), .d (.int .i64 a1.Value)]] (.agg [.d (.int .i64 y.Motion), .d (.int .i64 y.Distance), .d (.int .i64 y.Work), .d (.int .i64 y.Length), .d (.int .i64 y.Return), .d (.int .i64 y.Feed), .d (.int .i64 y.Tool), .d (.int .i64 y.Offset)]) := by
  refine spec_mir Tryd.func69 rfl (by kernel_rfl) (by kernel_rfl) (fun y : ModalState => .agg [.d (.int .i64 y.Motion), .d (.int .i64 y.Distance), .d (.int .i64 y.Work), .d (.int .i64 y.Length), .d (.int .i64 y.Return), .d (.int .i64 y.Feed), .d (.int .i64 y.Tool), .d (.int .i64 y.Offset)]) ?_ h
  unfold md_put
  simp only [List.replicate, List.length, nS, nA, Tryd.ntmps69, SV]
  refine Mir.seqK ?_
  refine Mir.region fun e h => ?_
  simp only [↓reduceIte, reduceCtorEq, nA, nS, nM, nE, nL, nT, nB, iT, iN, iE, and_self, SR, SV, zero_65]
  refine Mir.use (e := e) ?_ h
  refine Mir.seqK ?_
  refine Mir.seqK ?_
  refine Mir.region fun e h => ?_
  simp only [↓reduceIte, reduceCtorEq, nA, nS, nM, nE, nL, nT, nB, iT, iN, iE, and_self, SR, SV, fld_38_0, sz_5, ag_5]
  refine Mir.use (e := e) ?_ h
  refine Mir.joinO (fun v103 : ModalState => [U, U, .ptr 0 0, U, .ptr 2 0, U, U, U, U, U, U, U, U, U, U, U, U, U, U, U, U, U, U, U, U, U, U, U, U, U, U, U, U, U, U, U, U, U, U, U, U, U]) (fun v103 : ModalState => ⟨[[.d (.int .i64 v103.Motion), .d (.int .i64 v103.Distance), .d (.int .i64 v103.Work), .d (.int .i64 v103.Length), .d (.int .i64 v103.Return), .d (.int .i64 v103.Feed), .d (.int .i64 v103.Tool), .d (.int .i64 v103.Offset)], [.d (.int .u8 a1.Letter), .d (.int .i64 a1.Value)], [.d (.int .i64 0), .d (.int .i64 0), .d (.int .i64 0), .d (.int .i64 0), .d (.int .i64 0), .d (.int .i64 0), .d (.int .i64 0), .d (.int .i64 0)]], []⟩) (fun _ => rfl) ?_ ?_
  ·refine Mir.block ?_
   refine Mir.seqK ?_
   refine Mir.region fun e h => ?_
   simp only [↓reduceIte, reduceCtorEq, nA, nS, nM, nE, nL, nT, nB, iT, iN, iE, and_self, SR, SV]
   refine Mir.use (e := e) ?_ h
   refine Mir.cond rfl (fun hb12 => ?_) (fun hb12 => ?_)
   ·refine Mir.seqK ?_
    refine Mir.region fun e h => ?_
    simp only [↓reduceIte, reduceCtorEq, nA, nS, nM, nE, nL, nT, nB, iT, iN, iE, and_self, SR, SV, fld_65_0, sz_2, fld_65_1, fld_65_2, fld_65_3, fld_65_4, und_140, sz_139, zero_139, (nr rfl : okLen 5 = true)]
    refine Mir.use (e := e) ?_ h
    refine Mir.joinO (fun v105 : ModalState => [U, U, .ptr 0 0, U, .ptr 2 0, U, U, U, U, U, U, U, U, U, U, U, U, U, U, U, U, U, U, U, U, U, U, U, U, U, U, U, U, U, U, U, U, U, U, U, U, U]) (fun v105 : ModalState => ⟨[[.d (.int .i64 v105.Motion), .d (.int .i64 v105.Distance), .d (.int .i64 v105.Work), .d (.int .i64 v105.Length), .d (.int .i64 v105.Return), .d (.int .i64 v105.Feed), .d (.int .i64 v105.Tool), .d (.int .i64 v105.Offset)], [.d (.int .u8 a1.Letter), .d (.int .i64 a1.Value)], [.d (.int .i64 0), .d (.int .i64 0), .d (.int .i64 0), .d (.int .i64 0), .d (.int .i64 0), .d (.int .i64 0), .d (.int .i64 0), .d (.int .i64 0)], [.ptr 0 0, .ptr 0 1, .ptr 0 2, .ptr 0 3, .ptr 0 4]], []⟩) (fun _ => rfl) ?_ ?_
    ·refine Mir.bind fun y104 hy13 => ?_
     refine Mir.guard fun qi14 => ?_
     refine Mir.ite (fun hb15 => ?_) (fun hb15 => ?_)
     ·refine Mir.regionD [] (by kernel_rfl) fun e h => ?_
      simp only [↓reduceIte, reduceCtorEq, nA, nS, nM, nE, nL, nT, nB, iT, iN, iE, and_self, SR, SV, sepL_nil, sepL_cons, sepV_ne, sepV_d, sepV_i, true_and, Bool.and_self, fld_38_1, sz_2, ag_2, hb15]
      refine Spec.by (md_Group_spec hy13) (by simp only [↓reduceIte, reduceCtorEq, nA, nE, nL, and_self, and_true, true_and, SL, hb15]) ?_
      simp only [↓reduceIte, reduceCtorEq, nA, nS, nM, nE, nL, nT, nB, iT, iN, iE, and_self, SR, SV, sepL_nil, sepL_cons, sepV_ne, sepV_d, sepV_i, true_and, Bool.and_self, und_140, (eq_of_beq hb15), sz_139, ag_139, fld_38_1, sz_2, ag_2, hb15]
      cases h
      simp only [↓reduceIte, reduceCtorEq, nA, nE, nL, and_self, and_true, true_and, SL, hb15]
     ·refine Mir.ite (fun hb16 => ?_) (fun hb16 => ?_)
      ·refine Mir.regionD [] (by kernel_rfl) fun e h => ?_
       simp only [↓reduceIte, reduceCtorEq, nA, nS, nM, nE, nL, nT, nB, iT, iN, iE, and_self, SR, SV, sepL_nil, sepL_cons, sepV_ne, sepV_d, sepV_i, true_and, Bool.and_self, fld_38_1, sz_2, ag_2, hb15, hb16]
       refine Spec.by (md_Group_spec hy13) (by simp only [↓reduceIte, reduceCtorEq, nA, nE, nL, and_self, and_true, true_and, SL, hb15, hb16]) ?_
       simp only [↓reduceIte, reduceCtorEq, nA, nS, nM, nE, nL, nT, nB, iT, iN, iE, and_self, SR, SV, sepL_nil, sepL_cons, sepV_ne, sepV_d, sepV_i, true_and, Bool.and_self, und_140, (eq_of_beq hb16), sz_139, ag_139, fld_38_1, sz_2, ag_2, hb15, hb16]
       cases h
       simp only [↓reduceIte, reduceCtorEq, nA, nE, nL, and_self, and_true, true_and, SL, hb15, hb16]
      ·refine Mir.ite (fun hb17 => ?_) (fun hb17 => ?_)
       ·refine Mir.regionD [] (by kernel_rfl) fun e h => ?_
        simp only [↓reduceIte, reduceCtorEq, nA, nS, nM, nE, nL, nT, nB, iT, iN, iE, and_self, SR, SV, sepL_nil, sepL_cons, sepV_ne, sepV_d, sepV_i, true_and, Bool.and_self, fld_38_1, sz_2, ag_2, hb15, hb16, hb17]
        refine Spec.by (md_Group_spec hy13) (by simp only [↓reduceIte, reduceCtorEq, nA, nE, nL, and_self, and_true, true_and, SL, hb15, hb16, hb17]) ?_
        simp only [↓reduceIte, reduceCtorEq, nA, nS, nM, nE, nL, nT, nB, iT, iN, iE, and_self, SR, SV, sepL_nil, sepL_cons, sepV_ne, sepV_d, sepV_i, true_and, Bool.and_self, und_140, (eq_of_beq hb17), sz_139, ag_139, fld_38_1, sz_2, ag_2, hb15, hb16, hb17]
        cases h
        simp only [↓reduceIte, reduceCtorEq, nA, nE, nL, and_self, and_true, true_and, SL, hb15, hb16, hb17]
       ·refine Mir.ite (fun hb18 => ?_) (fun hb18 => ?_)
        ·refine Mir.regionD [] (by kernel_rfl) fun e h => ?_
         simp only [↓reduceIte, reduceCtorEq, nA, nS, nM, nE, nL, nT, nB, iT, iN, iE, and_self, SR, SV, sepL_nil, sepL_cons, sepV_ne, sepV_d, sepV_i, true_and, Bool.and_self, fld_38_1, sz_2, ag_2, hb15, hb16, hb17, hb18]
         refine Spec.by (md_Group_spec hy13) (by simp only [↓reduceIte, reduceCtorEq, nA, nE, nL, and_self, and_true, true_and, SL, hb15, hb16, hb17, hb18]) ?_
         simp only [↓reduceIte, reduceCtorEq, nA, nS, nM, nE, nL, nT, nB, iT, iN, iE, and_self, SR, SV, sepL_nil, sepL_cons, sepV_ne, sepV_d, sepV_i, true_and, Bool.and_self, und_140, (eq_of_beq hb18), sz_139, ag_139, fld_38_1, sz_2, ag_2, hb15, hb16, hb17, hb18]
         cases h
         simp only [↓reduceIte, reduceCtorEq, nA, nE, nL, and_self, and_true, true_and, SL, hb15, hb16, hb17, hb18]
        ·have hz19 : IntKind.i64.wrap (y104 - 1) = 4 := by have h0 := of_decide_eq_true qi14; have h1 := ne_of_beq_false hb15; have h2 := ne_of_beq_false hb16; have h3 := ne_of_beq_false hb17; have h4 := ne_of_beq_false hb18; omega
         refine Mir.regionD [] (by kernel_rfl) fun e h => ?_
         simp only [↓reduceIte, reduceCtorEq, nA, nS, nM, nE, nL, nT, nB, iT, iN, iE, and_self, SR, SV, sepL_nil, sepL_cons, sepV_ne, sepV_d, sepV_i, true_and, Bool.and_self, fld_38_1, sz_2, ag_2, hb15, hb16, hb17, hb18]
         refine Spec.by (md_Group_spec hy13) (by simp only [↓reduceIte, reduceCtorEq, nA, nE, nL, and_self, and_true, true_and, SL, hb15, hb16, hb17, hb18]) ?_
         simp only [↓reduceIte, reduceCtorEq, nA, nS, nM, nE, nL, nT, nB, iT, iN, iE, and_self, SR, SV, sepL_nil, sepL_cons, sepV_ne, sepV_d, sepV_i, true_and, Bool.and_self, und_140, hz19, sz_139, ag_139, fld_38_1, sz_2, ag_2, hb15, hb16, hb17, hb18]
         cases h
         simp only [↓reduceIte, reduceCtorEq, nA, nE, nL, and_self, and_true, true_and, SL, hb15, hb16, hb17, hb18]
    ·intro v105
     intro e h
     cases h
     simp only [↓reduceIte, reduceCtorEq, nA, nE, nL, and_self, and_true, true_and, SL, Tryd.results69, ag_65, sz_65]
   ·refine Mir.seqK ?_
    refine Mir.region fun e h => ?_
    simp only [↓reduceIte, reduceCtorEq, nA, nS, nM, nE, nL, nT, nB, iT, iN, iE, and_self, SR, SV]
    refine Mir.use (e := e) ?_ h
    refine Mir.cond rfl (fun hb20 => ?_) (fun hb20 => ?_)
    ·refine Mir.region fun e h => ?_
     simp only [↓reduceIte, reduceCtorEq, nA, nS, nM, nE, nL, nT, nB, iT, iN, iE, and_self, SR, SV, fld_38_1, sz_2, ag_2, fld_65_5]
     cases h
     simp only [↓reduceIte, reduceCtorEq, nA, nE, nL, and_self, and_true, true_and, SL, Tryd.results69, ag_65, sz_65]
    ·refine Mir.seqK ?_
     refine Mir.region fun e h => ?_
     simp only [↓reduceIte, reduceCtorEq, nA, nS, nM, nE, nL, nT, nB, iT, iN, iE, and_self, SR, SV]
     refine Mir.use (e := e) ?_ h
     refine Mir.cond rfl (fun hb21 => ?_) (fun hb21 => ?_)
     ·refine Mir.region fun e h => ?_
      simp only [↓reduceIte, reduceCtorEq, nA, nS, nM, nE, nL, nT, nB, iT, iN, iE, and_self, SR, SV, fld_38_1, sz_2, ag_2, fld_65_6]
      cases h
      simp only [↓reduceIte, reduceCtorEq, nA, nE, nL, and_self, and_true, true_and, SL, Tryd.results69, ag_65, sz_65]
     ·refine Mir.seqK ?_
      refine Mir.region fun e h => ?_
      simp only [↓reduceIte, reduceCtorEq, nA, nS, nM, nE, nL, nT, nB, iT, iN, iE, and_self, SR, SV]
      refine Mir.use (e := e) ?_ h
      refine Mir.cond rfl (fun hb22 => ?_) (fun hb22 => ?_)
      ·refine Mir.region fun e h => ?_
       simp only [↓reduceIte, reduceCtorEq, nA, nS, nM, nE, nL, nT, nB, iT, iN, iE, and_self, SR, SV, fld_38_1, sz_2, ag_2, fld_65_7]
       cases h
       simp only [↓reduceIte, reduceCtorEq, nA, nE, nL, and_self, and_true, true_and, SL, Tryd.results69, ag_65, sz_65]
      ·refine Mir.skip fun e h => ?_
       cases h
       simp only [↓reduceIte, reduceCtorEq, nA, nE, nL, and_self, and_true, true_and, SL, Tryd.results69, ag_65, sz_65]
  ·intro v103
   refine Mir.toK ?_
   refine Mir.seqK ?_
   refine Mir.region fun e h => ?_
   simp only [↓reduceIte, reduceCtorEq, nA, nS, nM, nE, nL, nT, nB, iT, iN, iE, and_self, SR, SV, ag_65, sz_65]
   refine Mir.use (e := e) ?_ h
   refine Mir.ret fun e h => ?_
   cases h
   simp only [↓reduceIte, reduceCtorEq, nA, nE, nL, and_self, and_true, true_and, SL, Tryd.results69, ag_65, sz_65]

def md_Apply (a0 : ModalState) (a1 : ApiBlock) : Option (ModalState × Int) :=
  bindO (md_Check a1) fun (y101 : Int) =>
  if (y101 != 0) = true then
    some (ModalState.mk 0 0 0 0 0 0 0 0, y101)
  else
    bindO (guardO (okIdx a1.Words) (
        rangeX (fun (i142 : Nat) (e144 : ApiWord) (v143 : ModalState) =>
          bindO (md_put v143 e144) fun (y146 : ModalState) =>
          some (.go y146)) (fun (v143 : ModalState) => some v143) a1.Words 0 a0)) fun (v124 : ModalState) =>
    some (v124, 0)
theorem md_Apply_spec {a0 : ModalState} {a1 : ApiBlock} {y : ModalState × Int} (h : md_Apply a0 a1 = some y) : Spec gP 50 [.agg [.d (.int .i64 a0.Motion), .d (.int .i64 a0.Distance), .d (.int .i64 a0.Work), .d (.int .i64 a0.Length), .d (.int .i64 a0.Return), .d (.int .i64 a0.Feed), .d (.int .i64 a0.Tool), .d (.int .i64 a0.Offset)], .agg [.d (.bool a1.Skip), .d (.list (List.map encApiWord a1.Words)), .d (.str a1.Comment)]] (.tuple [.agg [.d (.int .i64 y.1.Motion), .d (.int .i64 y.1.Distance), .d (.int .i64 y.1.Work), .d (.int .i64 y.1.Length), .d (.int .i64 y.1.Return), .d (.int .i64 y.1.Feed), .d (.int .i64 y.1.Tool), .d (.int .i64 y.1.Offset)], .d (.int .i64 y.2)]) := by
  refine spec_mir Tryd.func50 rfl (by kernel_rfl) (by kernel_rfl) (fun y : ModalState × Int => .tuple [.agg [.d (.int .i64 y.1.Motion), .d (.int .i64 y.1.Distance), .d (.int .i64 y.1.Work), .d (.int .i64 y.1.Length), .d (.int .i64 y.1.Return), .d (.int .i64 y.1.Feed), .d (.int .i64 y.1.Tool), .d (.int .i64 y.1.Offset)], .d (.int .i64 y.2)]) ?_ h
  unfold md_Apply
  simp only [List.replicate, List.length, nS, nA, Tryd.ntmps50, SV]
  refine Mir.seqK ?_
  refine Mir.region fun e h => ?_
  simp only [↓reduceIte, reduceCtorEq, nA, nS, nM, nE, nL, nT, nB, iT, iN, iE, and_self, SR, SV, zero_65, encApiWord]
  refine Mir.use (e := e) ?_ h
  refine Mir.seqK ?_
  refine Mir.seqK ?_
  refine Mir.bind fun y101 hy1 => ?_
  refine Mir.region fun e h => ?_
  simp only [↓reduceIte, reduceCtorEq, nA, nS, nM, nE, nL, nT, nB, iT, iN, iE, and_self, SR, SV, ag_42, sz_42, encApiWord]
  refine SpecS.by (md_Check_spec hy1) (by simp only [↓reduceIte, reduceCtorEq, nA, nE, nL, and_self, and_true, true_and, SL, encApiWord]) ?_
  simp only [↓reduceIte, reduceCtorEq, nA, nS, nM, nE, nL, nT, nB, iT, iN, iE, and_self, SR, SV, encApiWord]
  refine Mir.use (e := e) ?_ h
  refine Mir.seqK ?_
  refine Mir.region fun e h => ?_
  simp only [↓reduceIte, reduceCtorEq, nA, nS, nM, nE, nL, nT, nB, iT, iN, iE, and_self, SR, SV, encApiWord]
  refine Mir.use (e := e) ?_ h
  refine Mir.cond rfl (fun hb3 => ?_) (fun hb3 => ?_)
  ·refine Mir.seqK ?_
   refine Mir.region fun e h => ?_
   simp only [↓reduceIte, reduceCtorEq, nA, nS, nM, nE, nL, nT, nB, iT, iN, iE, and_self, SR, SV, zero_65, pl_65, sz_65, encApiWord]
   refine Mir.use (e := e) ?_ h
   refine Mir.ret fun e h => ?_
   cases h
   simp only [↓reduceIte, reduceCtorEq, nA, nE, nL, and_self, and_true, true_and, SL, encApiWord, Tryd.results50, ag_65, sz_65]
  ·refine Mir.skip ?_
   refine Mir.toK ?_
   refine Mir.seqK ?_
   refine Mir.seqK ?_
   refine Mir.region fun e h => ?_
   simp only [↓reduceIte, reduceCtorEq, nA, nS, nM, nE, nL, nT, nB, iT, iN, iE, and_self, SR, SV, fld_42_1, sz_40, ag_40, und_40, encApiWord]
   refine Mir.use (e := e) ?_ h
   refine Mir.joinO (fun v124 : ModalState => [U, U, .ptr 0 0, U, .ptr 2 0, U, U, U, U, U, U, U, U, U, U, U, U, U, U, U, U, U, U, U, U, U, U]) (fun v124 : ModalState => ⟨[[.d (.int .i64 v124.Motion), .d (.int .i64 v124.Distance), .d (.int .i64 v124.Work), .d (.int .i64 v124.Length), .d (.int .i64 v124.Return), .d (.int .i64 v124.Feed), .d (.int .i64 v124.Tool), .d (.int .i64 v124.Offset)], [.d (.bool a1.Skip), .d (.list (List.map encApiWord a1.Words)), .d (.str a1.Comment)], [.d (.int .i64 0), .d (.int .i64 0), .d (.int .i64 0), .d (.int .i64 0), .d (.int .i64 0), .d (.int .i64 0), .d (.int .i64 0), .d (.int .i64 0)]], []⟩) (fun _ => rfl) ?_ ?_
   ·refine Mir.block ?_
    refine Mir.guard fun qg47 => ?_
    refine Mir.range (fun (i142 : Nat) (v143 : ModalState) => [U, U, .ptr 0 0, U, .ptr 2 0, U, U, U, U, U, U, U, U, U, U, U, .d (.list (List.map encApiWord a1.Words)), .d (.int .i64 (a1.Words.length : Int)), .d (.int .i64 (i142 : Int)), U, U, U, U, U, U, U, U]) (fun (i142 : Nat) (v143 : ModalState) => ⟨[[.d (.int .i64 v143.Motion), .d (.int .i64 v143.Distance), .d (.int .i64 v143.Work), .d (.int .i64 v143.Length), .d (.int .i64 v143.Return), .d (.int .i64 v143.Feed), .d (.int .i64 v143.Tool), .d (.int .i64 v143.Offset)], [.d (.bool a1.Skip), .d (.list (List.map encApiWord a1.Words)), .d (.str a1.Comment)], [.d (.int .i64 0), .d (.int .i64 0), .d (.int .i64 0), .d (.int .i64 0), .d (.int .i64 0), .d (.int .i64 0), .d (.int .i64 0), .d (.int .i64 0)]], []⟩) qg47 (fun _ _ => rfl) (by simp only [↓reduceIte, reduceCtorEq, nA, nE, nL, and_self, and_true, true_and, SL, encApiWord, (nr rfl : ((0 : Nat) : Int) = 0)]) (by simp only [↓reduceIte, reduceCtorEq, nA, nE, nL, and_self, and_true, true_and, SL, encApiWord, (nr rfl : ((0 : Nat) : Int) = 0)]) ?_ ?_
    ·intro i142 e144 v143 qr45
     refine Mir.seqK ?_
     refine Mir.region fun e h => ?_
     simp only [↓reduceIte, reduceCtorEq, nA, nS, nM, nE, nL, nT, nB, iT, iN, iE, and_self, SR, SV, qr45, encApiWord]
     refine Mir.use (e := e) ?_ h
     refine Mir.seqK ?_
     refine Mir.condT rfl ?_
     refine Mir.skip ?_
     refine Mir.toK ?_
     refine Mir.seqK ?_
     refine Mir.block ?_
     refine Mir.seqK ?_
     refine Mir.region fun e h => ?_
     simp only [↓reduceIte, reduceCtorEq, nA, nS, nM, nE, nL, nT, nB, iT, iN, iE, and_self, SR, SV, und_40, sz_38, qr45, Int.toNat_natCast, ag_38, zero_38, encApiWord]
     refine Mir.use (e := e) ?_ h
     refine Mir.bind fun y146 hy49 => ?_
     refine Mir.region fun e h => ?_
     simp only [↓reduceIte, reduceCtorEq, nA, nS, nM, nE, nL, nT, nB, iT, iN, iE, and_self, SR, SV, ag_65, sz_65, ag_38, sz_38, encApiWord]
     refine SpecS.by (md_put_spec hy49) (by simp only [↓reduceIte, reduceCtorEq, nA, nE, nL, and_self, and_true, true_and, SL, encApiWord]) ?_
     simp only [↓reduceIte, reduceCtorEq, nA, nS, nM, nE, nL, nT, nB, iT, iN, iE, and_self, SR, SV, sz_65, encApiWord]
     refine Mir.use (e := e) ?_ h
     refine Mir.region fun e h => ?_
     simp only [↓reduceIte, reduceCtorEq, nA, nS, nM, nE, nL, nT, nB, iT, iN, iE, and_self, SR, SV, encApiWord]
     cases h
     simp only [↓reduceIte, reduceCtorEq, nA, nE, nL, and_self, and_true, true_and, SL, encApiWord, Tryd.results50, ag_65, sz_65, qr45]
    ·intro v143 qd46
     refine Mir.seqK ?_
     refine Mir.region fun e h => ?_
     simp only [↓reduceIte, reduceCtorEq, nA, nS, nM, nE, nL, nT, nB, iT, iN, iE, and_self, SR, SV, qd46, encApiWord]
     refine Mir.use (e := e) ?_ h
     refine Mir.seqK ?_
     refine Mir.condF rfl ?_
     refine Mir.exit fun e h => ?_
     cases h
     simp only [↓reduceIte, reduceCtorEq, nA, nE, nL, and_self, and_true, true_and, SL, encApiWord, Tryd.results50, ag_65, sz_65]
   ·intro v124
    refine Mir.toK ?_
    refine Mir.seqK ?_
    refine Mir.region fun e h => ?_
    simp only [↓reduceIte, reduceCtorEq, nA, nS, nM, nE, nL, nT, nB, iT, iN, iE, and_self, SR, SV, ag_65, sz_65, encApiWord]
    refine Mir.use (e := e) ?_ h
    refine Mir.ret fun e h => ?_
    cases h
    simp only [↓reduceIte, reduceCtorEq, nA, nE, nL, and_self, and_true, true_and, SL, encApiWord, Tryd.results50, ag_65, sz_65]

def inp_cycles (a0 : Int) : Option Bool :=
  some ((a0 == 81000) || ((a0 == 82000) || (a0 == 83000)))
theorem inp_cycles_spec {a0 : Int} {y : Bool} (h : inp_cycles a0 = some y) : Spec gP 51 [.d (.int .i64 a0)] (.d (.bool y)) := by
  refine spec_mir Tryd.func51 rfl (by kernel_rfl) (by kernel_rfl) (fun y : Bool => .d (.bool y)) ?_ h
  unfold inp_cycles
  simp only [List.replicate, List.length, nS, nA, Tryd.ntmps51, SV]
  refine Mir.seqK ?_
  refine Mir.region fun e h => ?_
  simp only [↓reduceIte, reduceCtorEq, nA, nS, nM, nE, nL, nT, nB, iT, iN, iE, and_self, SR, SV]
  refine Mir.use (e := e) ?_ h
  refine Mir.seqK ?_
  refine Mir.joinV [U, U, .d (.bool ((a0 == 81000) || ((a0 == 82000) || (a0 == 83000)))), U, U, U, U, U, U, U, U, U, U] ⟨[], []⟩ rfl ?_ ?_
  ·refine SWs.region ?_
   rcases Bool.eq_false_or_eq_true (a0 == 81000) with hb1 | hb1
   ·simp only [↓reduceIte, reduceCtorEq, nA, nS, nM, nE, nL, nT, nB, iT, iN, iE, and_self, SR, SV, SL, Bool.true_and, Bool.false_and, Bool.true_or, Bool.false_or, Bool.or_true, Bool.or_false, Bool.and_true, Bool.and_false, Bool.not_true, Bool.not_false, hb1]
   ·rcases Bool.eq_false_or_eq_true (a0 == 82000) with hb2 | hb2
    ·simp only [↓reduceIte, reduceCtorEq, nA, nS, nM, nE, nL, nT, nB, iT, iN, iE, and_self, SR, SV, SL, Bool.true_and, Bool.false_and, Bool.true_or, Bool.false_or, Bool.or_true, Bool.or_false, Bool.and_true, Bool.and_false, Bool.not_true, Bool.not_false, hb1, hb2]
    ·simp only [↓reduceIte, reduceCtorEq, nA, nS, nM, nE, nL, nT, nB, iT, iN, iE, and_self, SR, SV, SL, Bool.true_and, Bool.false_and, Bool.true_or, Bool.false_or, Bool.or_true, Bool.or_false, Bool.and_true, Bool.and_false, Bool.not_true, Bool.not_false, hb1, hb2]
  ·refine Mir.toK ?_
   refine Mir.ret fun e h => ?_
   cases h
   simp only [↓reduceIte, reduceCtorEq, nA, nE, nL, and_self, and_true, true_and, SL, Tryd.results51]

def bk_Find (a0 : ApiBlock) (a1 : Int) : Option (Int × Bool) :=
  bindX (guardO (okIdx a0.Words) (
      rangeX (fun (i127 : Nat) (e129 : ApiWord) (v128 : Unit) =>
        if (e129.Letter == a1) = true then
          some (.ret (.ret (e129.Value, true)))
        else
          some (.go ())) (fun (v128 : Unit) => some (.go ())) a0.Words 0 ())) fun (v115 : Unit) =>
  some (0, false)
theorem bk_Find_spec {a0 : ApiBlock} {a1 : Int} {y : Int × Bool} (h : bk_Find a0 a1 = some y) : Spec gP 70 [.agg [.d (.bool a0.Skip), .d (.list (List.map encApiWord a0.Words)), .d (.str a0.Comment)], .d (.int .u8 a1)] (.tuple [.d (.int .i64 y.1), .d (.bool y.2)]) := by
  refine spec_mir Tryd.func70 rfl (by kernel_rfl) (by kernel_rfl) (fun y : Int × Bool => .tuple [.d (.int .i64 y.1), .d (.bool y.2)]) ?_ h
  unfold bk_Find
  simp only [List.replicate, List.length, nS, nA, Tryd.ntmps70, SV]
  refine Mir.seqK ?_
  refine Mir.region fun e h => ?_
  simp only [↓reduceIte, reduceCtorEq, nA, nS, nM, nE, nL, nT, nB, iT, iN, iE, and_self, SR, SV, encApiWord]
  refine Mir.use (e := e) ?_ h
  refine Mir.seqK ?_
  refine Mir.seqK ?_
  refine Mir.region fun e h => ?_
  simp only [↓reduceIte, reduceCtorEq, nA, nS, nM, nE, nL, nT, nB, iT, iN, iE, and_self, SR, SV, fld_42_1, sz_40, ag_40, und_40, encApiWord]
  refine Mir.use (e := e) ?_ h
  refine Mir.join (fun v115 : Unit => [U, U, U, U, U, U, U, U, U, U, U, U, U, U, U, U, U, U, U, U, U, U]) (fun v115 : Unit => ⟨[[.d (.bool a0.Skip), .d (.list (List.map encApiWord a0.Words)), .d (.str a0.Comment)]], []⟩) (fun _ => rfl) ?_ ?_
  ·refine Mir.block ?_
   refine Mir.guard fun qg51 => ?_
   refine Mir.range (fun (i127 : Nat) (v128 : Unit) => [U, .d (.int .u8 a1), U, U, U, U, U, U, U, .d (.list (List.map encApiWord a0.Words)), .d (.int .i64 (a0.Words.length : Int)), .d (.int .i64 (i127 : Int)), U, U, U, U, U, U, U, U, U, U]) (fun (i127 : Nat) (v128 : Unit) => ⟨[[.d (.bool a0.Skip), .d (.list (List.map encApiWord a0.Words)), .d (.str a0.Comment)]], []⟩) qg51 (fun _ _ => rfl) (by simp only [↓reduceIte, reduceCtorEq, nA, nE, nL, and_self, and_true, true_and, SL, encApiWord, (nr rfl : ((0 : Nat) : Int) = 0)]) (by simp only [↓reduceIte, reduceCtorEq, nA, nE, nL, and_self, and_true, true_and, SL, encApiWord, (nr rfl : ((0 : Nat) : Int) = 0)]) ?_ ?_
   ·intro i127 e129 v128 qr49
    refine Mir.seqK ?_
    refine Mir.region fun e h => ?_
    simp only [↓reduceIte, reduceCtorEq, nA, nS, nM, nE, nL, nT, nB, iT, iN, iE, and_self, SR, SV, qr49, encApiWord]
    refine Mir.use (e := e) ?_ h
    refine Mir.seqK ?_
    refine Mir.condT rfl ?_
    refine Mir.skip ?_
    refine Mir.toK ?_
    refine Mir.seqK ?_
    refine Mir.block ?_
    refine Mir.seqK ?_
    refine Mir.region fun e h => ?_
    simp only [↓reduceIte, reduceCtorEq, nA, nS, nM, nE, nL, nT, nB, iT, iN, iE, and_self, SR, SV, und_40, sz_38, qr49, Int.toNat_natCast, ag_38, zero_38, encApiWord]
    refine Mir.use (e := e) ?_ h
    refine Mir.seqK ?_
    refine Mir.region fun e h => ?_
    simp only [↓reduceIte, reduceCtorEq, nA, nS, nM, nE, nL, nT, nB, iT, iN, iE, and_self, SR, SV, fld_38_0, sz_5, ag_5, encApiWord]
    refine Mir.use (e := e) ?_ h
    refine Mir.cond rfl (fun hb54 => ?_) (fun hb54 => ?_)
    ·refine Mir.seqK ?_
     refine Mir.region fun e h => ?_
     simp only [↓reduceIte, reduceCtorEq, nA, nS, nM, nE, nL, nT, nB, iT, iN, iE, and_self, SR, SV, fld_38_1, sz_2, ag_2, encApiWord]
     refine Mir.use (e := e) ?_ h
     refine Mir.ret fun e h => ?_
     cases h
     simp only [↓reduceIte, reduceCtorEq, nA, nE, nL, and_self, and_true, true_and, SL, encApiWord, Tryd.results70]
    ·refine Mir.skip ?_
     refine Mir.toB ?_
     refine Mir.toK ?_
     refine Mir.region fun e h => ?_
     simp only [↓reduceIte, reduceCtorEq, nA, nS, nM, nE, nL, nT, nB, iT, iN, iE, and_self, SR, SV, encApiWord]
     cases h
     simp only [↓reduceIte, reduceCtorEq, nA, nE, nL, and_self, and_true, true_and, SL, encApiWord, Tryd.results70, qr49]
   ·intro v128 qd50
    refine Mir.seqK ?_
    refine Mir.region fun e h => ?_
    simp only [↓reduceIte, reduceCtorEq, nA, nS, nM, nE, nL, nT, nB, iT, iN, iE, and_self, SR, SV, qd50, encApiWord]
    refine Mir.use (e := e) ?_ h
    refine Mir.seqK ?_
    refine Mir.condF rfl ?_
    refine Mir.exit fun e h => ?_
    cases h
    simp only [↓reduceIte, reduceCtorEq, nA, nE, nL, and_self, and_true, true_and, SL, encApiWord, Tryd.results70]
  ·intro v115
   refine Mir.toK ?_
   refine Mir.seqK ?_
   refine Mir.region fun e h => ?_
   simp only [↓reduceIte, reduceCtorEq, nA, nS, nM, nE, nL, nT, nB, iT, iN, iE, and_self, SR, SV, encApiWord]
   refine Mir.use (e := e) ?_ h
   refine Mir.ret fun e h => ?_
   cases h
   simp only [↓reduceIte, reduceCtorEq, nA, nE, nL, and_self, and_true, true_and, SL, encApiWord, Tryd.results70]

def inp_has (a0 : ApiBlock) (a1 : (List UInt8)) : Option Bool :=
  bindX (guardO (okIdx a1) (
      rangeX (fun (i141 : Nat) (c143 : UInt8) (v142 : Unit) =>
        bindO (bk_Find a0 (c143.toNat : Int)) fun (y145 : Int × Bool) =>
        if y145.2 = true then
          some (.ret (.ret true))
        else
          some (.go ())) (fun (v142 : Unit) => some (.go ())) a1 0 ())) fun (v123 : Unit) =>
  some false
theorem inp_has_spec {a0 : ApiBlock} {a1 : (List UInt8)} {y : Bool} (h : inp_has a0 a1 = some y) : Spec gP 52 [.agg [.d (.bool a0.Skip), .d (.list (List.map encApiWord a0.Words)), .d (.str a0.Comment)], .d (.str a1)] (.d (.bool y)) := by
  refine spec_mir Tryd.func52 rfl (by kernel_rfl) (by kernel_rfl) (fun y : Bool => .d (.bool y)) ?_ h
  unfold inp_has
  simp only [List.replicate, List.length, nS, nA, Tryd.ntmps52, SV]
  refine Mir.seqK ?_
  refine Mir.region fun e h => ?_
  simp only [↓reduceIte, reduceCtorEq, nA, nS, nM, nE, nL, nT, nB, iT, iN, iE, and_self, SR, SV, encApiWord]
  refine Mir.use (e := e) ?_ h
  refine Mir.seqK ?_
  refine Mir.seqK ?_
  refine Mir.region fun e h => ?_
  simp only [↓reduceIte, reduceCtorEq, nA, nS, nM, nE, nL, nT, nB, iT, iN, iE, and_self, SR, SV, und_9, encApiWord]
  refine Mir.use (e := e) ?_ h
  refine Mir.join (fun v123 : Unit => [U, U, U, U, U, U, U, U, U, U, U, U, U, U, U, U, U, U, U, U, U, U, U]) (fun v123 : Unit => ⟨[[.d (.bool a0.Skip), .d (.list (List.map encApiWord a0.Words)), .d (.str a0.Comment)]], []⟩) (fun _ => rfl) ?_ ?_
  ·refine Mir.block ?_
   refine Mir.guard fun qg65 => ?_
   refine Mir.range (fun (i141 : Nat) (v142 : Unit) => [U, .d (.str a1), .ptr 0 0, U, U, U, U, U, U, .d (.int .i64 (a1.length : Int)), .d (.int .i64 (i141 : Int)), U, U, U, U, U, U, U, U, U, U, U, U]) (fun (i141 : Nat) (v142 : Unit) => ⟨[[.d (.bool a0.Skip), .d (.list (List.map encApiWord a0.Words)), .d (.str a0.Comment)]], []⟩) qg65 (fun _ _ => rfl) (by simp only [↓reduceIte, reduceCtorEq, nA, nE, nL, and_self, and_true, true_and, SL, encApiWord, (nr rfl : ((0 : Nat) : Int) = 0)]) (by simp only [↓reduceIte, reduceCtorEq, nA, nE, nL, and_self, and_true, true_and, SL, encApiWord, (nr rfl : ((0 : Nat) : Int) = 0)]) ?_ ?_
   ·intro i141 c143 v142 qr63
    refine Mir.seqK ?_
    refine Mir.region fun e h => ?_
    simp only [↓reduceIte, reduceCtorEq, nA, nS, nM, nE, nL, nT, nB, iT, iN, iE, and_self, SR, SV, qr63, encApiWord]
    refine Mir.use (e := e) ?_ h
    refine Mir.seqK ?_
    refine Mir.condT rfl ?_
    refine Mir.skip ?_
    refine Mir.toK ?_
    refine Mir.seqK ?_
    refine Mir.block ?_
    refine Mir.seqK ?_
    refine Mir.region fun e h => ?_
    simp only [↓reduceIte, reduceCtorEq, nA, nS, nM, nE, nL, nT, nB, iT, iN, iE, and_self, SR, SV, encApiWord]
    refine Mir.use (e := e) ?_ h
    refine Mir.seqK ?_
    refine Mir.bind fun y145 hy68 => ?_
    refine Mir.regionD [] (by kernel_rfl) fun e h => ?_
    simp only [↓reduceIte, reduceCtorEq, nA, nS, nM, nE, nL, nT, nB, iT, iN, iE, and_self, SR, SV, sepL_nil, sepL_cons, sepV_ne, sepV_d, sepV_i, true_and, Bool.and_self, ag_42, sz_42, und_9, Int.toNat_natCast, qr63, encApiWord]
    refine Spec.by (bk_Find_spec hy68) (by simp only [↓reduceIte, reduceCtorEq, nA, nE, nL, and_self, and_true, true_and, SL, encApiWord]) ?_
    simp only [↓reduceIte, reduceCtorEq, nA, nS, nM, nE, nL, nT, nB, iT, iN, iE, and_self, SR, SV, sepL_nil, sepL_cons, sepV_ne, sepV_d, sepV_i, true_and, Bool.and_self, encApiWord]
    refine Mir.use (e := e) ?_ h
    refine Mir.seqK ?_
    refine Mir.region fun e h => ?_
    simp only [↓reduceIte, reduceCtorEq, nA, nS, nM, nE, nL, nT, nB, iT, iN, iE, and_self, SR, SV, encApiWord]
    refine Mir.use (e := e) ?_ h
    refine Mir.cond rfl (fun hb70 => ?_) (fun hb70 => ?_)
    ·refine Mir.seqK ?_
     refine Mir.region fun e h => ?_
     simp only [↓reduceIte, reduceCtorEq, nA, nS, nM, nE, nL, nT, nB, iT, iN, iE, and_self, SR, SV, encApiWord]
     refine Mir.use (e := e) ?_ h
     refine Mir.ret fun e h => ?_
     cases h
     simp only [↓reduceIte, reduceCtorEq, nA, nE, nL, and_self, and_true, true_and, SL, encApiWord, Tryd.results52]
    ·refine Mir.skip ?_
     refine Mir.toB ?_
     refine Mir.toK ?_
     refine Mir.region fun e h => ?_
     simp only [↓reduceIte, reduceCtorEq, nA, nS, nM, nE, nL, nT, nB, iT, iN, iE, and_self, SR, SV, encApiWord]
     cases h
     simp only [↓reduceIte, reduceCtorEq, nA, nE, nL, and_self, and_true, true_and, SL, encApiWord, Tryd.results52, qr63]
   ·intro v142 qd64
    refine Mir.seqK ?_
    refine Mir.region fun e h => ?_
    simp only [↓reduceIte, reduceCtorEq, nA, nS, nM, nE, nL, nT, nB, iT, iN, iE, and_self, SR, SV, qd64, encApiWord]
    refine Mir.use (e := e) ?_ h
    refine Mir.seqK ?_
    refine Mir.condF rfl ?_
    refine Mir.exit fun e h => ?_
    cases h
    simp only [↓reduceIte, reduceCtorEq, nA, nE, nL, and_self, and_true, true_and, SL, encApiWord, Tryd.results52]
  ·intro v123
   refine Mir.toK ?_
   refine Mir.seqK ?_
   refine Mir.region fun e h => ?_
   simp only [↓reduceIte, reduceCtorEq, nA, nS, nM, nE, nL, nT, nB, iT, iN, iE, and_self, SR, SV, encApiWord]
   refine Mir.use (e := e) ?_ h
   refine Mir.ret fun e h => ?_
   cases h
   simp only [↓reduceIte, reduceCtorEq, nA, nE, nL, and_self, and_true, true_and, SL, encApiWord, Tryd.results52]

def tb_slot (a0 : Int) : Option (Int × Int) :=
  if (((Int.tmod a0 1000) != 0) || ((decide (a0 < 54000)) || (decide (a0 > 59000)))) = true then
    some (0, 4)
  else
    some (IntKind.i64.wrap ((IntKind.i64.wrap (Int.tdiv a0 1000)) - 54), 0)
theorem tb_slot_spec {a0 : Int} {y : Int × Int} (h : tb_slot a0 = some y) : Spec gP 84 [.d (.int .i64 a0)] (.tuple [.d (.int .i64 y.1), .d (.int .i64 y.2)]) := by
  refine spec_mir Tryd.func84 rfl (by kernel_rfl) (by kernel_rfl) (fun y : Int × Int => .tuple [.d (.int .i64 y.1), .d (.int .i64 y.2)]) ?_ h
  unfold tb_slot
  simp only [List.replicate, List.length, nS, nA, Tryd.ntmps84, SV]
  refine Mir.seqK ?_
  refine Mir.region fun e h => ?_
  simp only [↓reduceIte, reduceCtorEq, nA, nS, nM, nE, nL, nT, nB, iT, iN, iE, and_self, SR, SV]
  refine Mir.use (e := e) ?_ h
  refine Mir.seqK ?_
  refine Mir.seqK ?_
  refine Mir.joinV [.d (.int .i64 a0), U, U, U, U, U, U, U, U, U, U, U, U, U, .d (.bool (((Int.tmod a0 1000) != 0) || ((decide (a0 < 54000)) || (decide (a0 > 59000))))), U, U, U] ⟨[], []⟩ rfl ?_ ?_
  ·refine SWs.region ?_
   rcases Bool.eq_false_or_eq_true ((Int.tmod a0 1000) != 0) with hb1 | hb1
   ·simp only [↓reduceIte, reduceCtorEq, nA, nS, nM, nE, nL, nT, nB, iT, iN, iE, and_self, SR, SV, SL, Bool.true_and, Bool.false_and, Bool.true_or, Bool.false_or, Bool.or_true, Bool.or_false, Bool.and_true, Bool.and_false, Bool.not_true, Bool.not_false, hb1]
   ·rcases Bool.eq_false_or_eq_true (decide (a0 < 54000)) with hb2 | hb2
    ·simp only [↓reduceIte, reduceCtorEq, nA, nS, nM, nE, nL, nT, nB, iT, iN, iE, and_self, SR, SV, SL, Bool.true_and, Bool.false_and, Bool.true_or, Bool.false_or, Bool.or_true, Bool.or_false, Bool.and_true, Bool.and_false, Bool.not_true, Bool.not_false, hb1, hb2]
    ·simp only [↓reduceIte, reduceCtorEq, nA, nS, nM, nE, nL, nT, nB, iT, iN, iE, and_self, SR, SV, SL, Bool.true_and, Bool.false_and, Bool.true_or, Bool.false_or, Bool.or_true, Bool.or_false, Bool.and_true, Bool.and_false, Bool.not_true, Bool.not_false, hb1, hb2]
  ·refine Mir.toK ?_
   refine Mir.cond rfl (fun hb4 => ?_) (fun hb4 => ?_)
   ·refine Mir.seqK ?_
    refine Mir.region fun e h => ?_
    simp only [↓reduceIte, reduceCtorEq, nA, nS, nM, nE, nL, nT, nB, iT, iN, iE, and_self, SR, SV]
    refine Mir.use (e := e) ?_ h
    refine Mir.ret fun e h => ?_
    cases h
    simp only [↓reduceIte, reduceCtorEq, nA, nE, nL, and_self, and_true, true_and, SL, Tryd.results84]
   ·refine Mir.skip ?_
    refine Mir.toK ?_
    refine Mir.seqK ?_
    refine Mir.region fun e h => ?_
    simp only [↓reduceIte, reduceCtorEq, nA, nS, nM, nE, nL, nT, nB, iT, iN, iE, and_self, SR, SV]
    refine Mir.use (e := e) ?_ h
    refine Mir.ret fun e h => ?_
    cases h
    simp only [↓reduceIte, reduceCtorEq, nA, nE, nL, and_self, and_true, true_and, SL, Tryd.results84]

def cmp_isNaN_int64 (a0 : Int) : Option Bool :=
  some (a0 != a0)
theorem cmp_isNaN_int64_spec {a0 : Int} {y : Bool} (h : cmp_isNaN_int64 a0 = some y) : Spec gP 116 [.d (.int .i64 a0)] (.d (.bool y)) := by
  refine spec_mir Tryd.func116 rfl (by kernel_rfl) (by kernel_rfl) (fun y : Bool => .d (.bool y)) ?_ h
  unfold cmp_isNaN_int64
  simp only [List.replicate, List.length, nS, nA, Tryd.ntmps116, SV]
  refine Mir.seqK ?_
  refine Mir.region fun e h => ?_
  simp only [↓reduceIte, reduceCtorEq, nA, nS, nM, nE, nL, nT, nB, iT, iN, iE, and_self, SR, SV]
  refine Mir.use (e := e) ?_ h
  refine Mir.seqK ?_
  refine Mir.region fun e h => ?_
  simp only [↓reduceIte, reduceCtorEq, nA, nS, nM, nE, nL, nT, nB, iT, iN, iE, and_self, SR, SV]
  refine Mir.use (e := e) ?_ h
  refine Mir.ret fun e h => ?_
  cases h
  simp only [↓reduceIte, reduceCtorEq, nA, nE, nL, and_self, and_true, true_and, SL, Tryd.results116]

def cmp_Compare_int64 (a0 : Int) (a1 : Int) : Option Int :=
  bindO (cmp_isNaN_int64 a0) fun (y101 : Bool) =>
  bindO (cmp_isNaN_int64 a1) fun (y102 : Bool) =>
  if y101 = true then
    if y102 = true then
      some 0
    else
      some (-1)
  else
    if y102 = true then
      some 1
    else
      if (decide (a0 < a1)) = true then
        some (-1)
      else
        if (decide (a0 > a1)) = true then
          some 1
        else
          some 0
theorem cmp_Compare_int64_spec {a0 : Int} {a1 : Int} {y : Int} (h : cmp_Compare_int64 a0 a1 = some y) : Spec gP 111 [.d (.int .i64 a0), .d (.int .i64 a1)] (.d (.int .i64 y)) := by
  refine spec_mir Tryd.func111 rfl (by kernel_rfl) (by kernel_rfl) (fun y : Int => .d (.int .i64 y)) ?_ h
  unfold cmp_Compare_int64
  simp only [List.replicate, List.length, nS, nA, Tryd.ntmps111, SV]
  refine Mir.seqK ?_
  refine Mir.region fun e h => ?_
  simp only [↓reduceIte, reduceCtorEq, nA, nS, nM, nE, nL, nT, nB, iT, iN, iE, and_self, SR, SV]
  refine Mir.use (e := e) ?_ h
  refine Mir.seqK ?_
  refine Mir.bind fun y101 hy1 => ?_
  refine Mir.region fun e h => ?_
  simp only [↓reduceIte, reduceCtorEq, nA, nS, nM, nE, nL, nT, nB, iT, iN, iE, and_self, SR, SV]
  refine SpecS.by (cmp_isNaN_int64_spec hy1) (by simp only [↓reduceIte, reduceCtorEq, nA, nE, nL, and_self, and_true, true_and, SL]) ?_
  simp only [↓reduceIte, reduceCtorEq, nA, nS, nM, nE, nL, nT, nB, iT, iN, iE, and_self, SR, SV]
  refine Mir.use (e := e) ?_ h
  refine Mir.seqK ?_
  refine Mir.bind fun y102 hy2 => ?_
  refine Mir.region fun e h => ?_
  simp only [↓reduceIte, reduceCtorEq, nA, nS, nM, nE, nL, nT, nB, iT, iN, iE, and_self, SR, SV]
  refine SpecS.by (cmp_isNaN_int64_spec hy2) (by simp only [↓reduceIte, reduceCtorEq, nA, nE, nL, and_self, and_true, true_and, SL]) ?_
  simp only [↓reduceIte, reduceCtorEq, nA, nS, nM, nE, nL, nT, nB, iT, iN, iE, and_self, SR, SV]
  refine Mir.use (e := e) ?_ h
  refine Mir.seqK ?_
  refine Mir.seqK ?_
  refine Mir.region fun e h => ?_
  simp only [↓reduceIte, reduceCtorEq, nA, nS, nM, nE, nL, nT, nB, iT, iN, iE, and_self, SR, SV]
  refine Mir.use (e := e) ?_ h
  refine Mir.cond rfl (fun hb6 => ?_) (fun hb6 => ?_)
  ·refine Mir.seqK ?_
   refine Mir.seqK ?_
   refine Mir.region fun e h => ?_
   simp only [↓reduceIte, reduceCtorEq, nA, nS, nM, nE, nL, nT, nB, iT, iN, iE, and_self, SR, SV]
   refine Mir.use (e := e) ?_ h
   refine Mir.cond rfl (fun hb8 => ?_) (fun hb8 => ?_)
   ·refine Mir.seqK ?_
    refine Mir.region fun e h => ?_
    simp only [↓reduceIte, reduceCtorEq, nA, nS, nM, nE, nL, nT, nB, iT, iN, iE, and_self, SR, SV]
    refine Mir.use (e := e) ?_ h
    refine Mir.ret fun e h => ?_
    cases h
    simp only [↓reduceIte, reduceCtorEq, nA, nE, nL, and_self, and_true, true_and, SL, Tryd.results111]
   ·refine Mir.skip ?_
    refine Mir.toK ?_
    refine Mir.seqK ?_
    refine Mir.region fun e h => ?_
    simp only [↓reduceIte, reduceCtorEq, nA, nS, nM, nE, nL, nT, nB, iT, iN, iE, and_self, SR, SV]
    refine Mir.use (e := e) ?_ h
    refine Mir.ret fun e h => ?_
    cases h
    simp only [↓reduceIte, reduceCtorEq, nA, nE, nL, and_self, and_true, true_and, SL, Tryd.results111]
  ·refine Mir.skip ?_
   refine Mir.toK ?_
   refine Mir.seqK ?_
   refine Mir.seqK ?_
   refine Mir.region fun e h => ?_
   simp only [↓reduceIte, reduceCtorEq, nA, nS, nM, nE, nL, nT, nB, iT, iN, iE, and_self, SR, SV]
   refine Mir.use (e := e) ?_ h
   refine Mir.cond rfl (fun hb10 => ?_) (fun hb10 => ?_)
   ·refine Mir.seqK ?_
    refine Mir.region fun e h => ?_
    simp only [↓reduceIte, reduceCtorEq, nA, nS, nM, nE, nL, nT, nB, iT, iN, iE, and_self, SR, SV]
    refine Mir.use (e := e) ?_ h
    refine Mir.ret fun e h => ?_
    cases h
    simp only [↓reduceIte, reduceCtorEq, nA, nE, nL, and_self, and_true, true_and, SL, Tryd.results111]
   ·refine Mir.skip ?_
    refine Mir.toK ?_
    refine Mir.seqK ?_
    refine Mir.seqK ?_
    refine Mir.region fun e h => ?_
    simp only [↓reduceIte, reduceCtorEq, nA, nS, nM, nE, nL, nT, nB, iT, iN, iE, and_self, SR, SV]
    refine Mir.use (e := e) ?_ h
    refine Mir.cond rfl (fun hb12 => ?_) (fun hb12 => ?_)
    ·refine Mir.seqK ?_
     refine Mir.region fun e h => ?_
     simp only [↓reduceIte, reduceCtorEq, nA, nS, nM, nE, nL, nT, nB, iT, iN, iE, and_self, SR, SV]
     refine Mir.use (e := e) ?_ h
     refine Mir.ret fun e h => ?_
     cases h
     simp only [↓reduceIte, reduceCtorEq, nA, nE, nL, and_self, and_true, true_and, SL, Tryd.results111]
    ·refine Mir.skip ?_
     refine Mir.toK ?_
     refine Mir.seqK ?_
     refine Mir.seqK ?_
     refine Mir.region fun e h => ?_
     simp only [↓reduceIte, reduceCtorEq, nA, nS, nM, nE, nL, nT, nB, iT, iN, iE, and_self, SR, SV]
     refine Mir.use (e := e) ?_ h
     refine Mir.cond rfl (fun hb14 => ?_) (fun hb14 => ?_)
     ·refine Mir.seqK ?_
      refine Mir.region fun e h => ?_
      simp only [↓reduceIte, reduceCtorEq, nA, nS, nM, nE, nL, nT, nB, iT, iN, iE, and_self, SR, SV]
      refine Mir.use (e := e) ?_ h
      refine Mir.ret fun e h => ?_
      cases h
      simp only [↓reduceIte, reduceCtorEq, nA, nE, nL, and_self, and_true, true_and, SL, Tryd.results111]
     ·refine Mir.skip ?_
      refine Mir.toK ?_
      refine Mir.seqK ?_
      refine Mir.region fun e h => ?_
      simp only [↓reduceIte, reduceCtorEq, nA, nS, nM, nE, nL, nT, nB, iT, iN, iE, and_self, SR, SV]
      refine Mir.use (e := e) ?_ h
      refine Mir.ret fun e h => ?_
      cases h
      simp only [↓reduceIte, reduceCtorEq, nA, nE, nL, and_self, and_true, true_and, SL, Tryd.results111]

def tb_find_c1 (a0 : TableLength) (a1 : Int) : Option Int :=
  bindO (cmp_Compare_int64 a0.Number a1) fun (y101 : Int) =>
  some y101
theorem tb_find_c1_spec {a0 : TableLength} {a1 : Int} {y : Int} (h : tb_find_c1 a0 a1 = some y) : Spec gP 110 [.agg [.d (.int .i64 a0.Number), .d (.int .i64 a0.Length)], .d (.int .i64 a1)] (.d (.int .i64 y)) := by
  refine spec_mir Tryd.func110 rfl (by kernel_rfl) (by kernel_rfl) (fun y : Int => .d (.int .i64 y)) ?_ h
  unfold tb_find_c1
  simp only [List.replicate, List.length, nS, nA, Tryd.ntmps110, SV]
  refine Mir.seqK ?_
  refine Mir.region fun e h => ?_
  simp only [↓reduceIte, reduceCtorEq, nA, nS, nM, nE, nL, nT, nB, iT, iN, iE, and_self, SR, SV]
  refine Mir.use (e := e) ?_ h
  refine Mir.seqK ?_
  refine Mir.bind fun y101 hy1 => ?_
  refine Mir.region fun e h => ?_
  simp only [↓reduceIte, reduceCtorEq, nA, nS, nM, nE, nL, nT, nB, iT, iN, iE, and_self, SR, SV, fld_100_0, sz_2, ag_2]
  refine SpecS.by (cmp_Compare_int64_spec hy1) (by simp only [↓reduceIte, reduceCtorEq, nA, nE, nL, and_self, and_true, true_and, SL]) ?_
  simp only [↓reduceIte, reduceCtorEq, nA, nS, nM, nE, nL, nT, nB, iT, iN, iE, and_self, SR, SV]
  refine Mir.use (e := e) ?_ h
  refine Mir.ret fun e h => ?_
  cases h
  simp only [↓reduceIte, reduceCtorEq, nA, nE, nL, and_self, and_true, true_and, SL, Tryd.results110]

def tb_find (a0 : TableTable) (a1 : Int) : Option (Int × Bool) :=
  bindO (bindO (loopX (fun (v152 : Int × Int) =>
            if (decide (v152.1 < v152.2)) = true then
              bindO (gt a0.Lengths (IntKind.i64.wrap (shrI .u64 (IntKind.u64.wrap (IntKind.i64.wrap (v152.1 + v152.2))) 1))) fun (e153 : TableLength) =>
              bindO (tb_find_c1 e153 a1) fun (y154 : Int) =>
              if (decide (y154 < 0)) = true then
                some (.go (IntKind.i64.wrap ((IntKind.i64.wrap (shrI .u64 (IntKind.u64.wrap (IntKind.i64.wrap (v152.1 + v152.2))) 1)) + 1), v152.2))
              else
                some (.go (v152.1, IntKind.i64.wrap (shrI .u64 (IntKind.u64.wrap (IntKind.i64.wrap (v152.1 + v152.2))) 1)))
            else
              some (.ret v152.1)) fuel (0, (a0.Lengths.length : Int))) fun (v142 : Int) =>
      bindO (if (decide (v142 < (a0.Lengths.length : Int))) = true then
            bindO (gt a0.Lengths v142) fun (e155 : TableLength) =>
            bindO (tb_find_c1 e155 a1) fun (y156 : Int) =>
            some (y156 == 0)
          else
            some false) fun (v157 : Bool) =>
      some (v142, v157)) fun (v129 : Int × Bool) =>
  some (v129.1, v129.2)
theorem tb_find_spec {a0 : TableTable} {a1 : Int} {y : Int × Bool} (h : tb_find a0 a1 = some y) : Spec gP 95 [.agg [.d (.int .i64 a0.Work.e0.X), .d (.int .i64 a0.Work.e0.Y), .d (.int .i64 a0.Work.e0.Z), .d (.int .i64 a0.Work.e1.X), .d (.int .i64 a0.Work.e1.Y), .d (.int .i64 a0.Work.e1.Z), .d (.int .i64 a0.Work.e2.X), .d (.int .i64 a0.Work.e2.Y), .d (.int .i64 a0.Work.e2.Z), .d (.int .i64 a0.Work.e3.X), .d (.int .i64 a0.Work.e3.Y), .d (.int .i64 a0.Work.e3.Z), .d (.int .i64 a0.Work.e4.X), .d (.int .i64 a0.Work.e4.Y), .d (.int .i64 a0.Work.e4.Z), .d (.int .i64 a0.Work.e5.X), .d (.int .i64 a0.Work.e5.Y), .d (.int .i64 a0.Work.e5.Z), .d (.list (List.map encTableLength a0.Lengths))], .d (.int .i64 a1)] (.tuple [.d (.int .i64 y.1), .d (.bool y.2)]) := by
  refine spec_mir Tryd.func95 rfl (by kernel_rfl) (by kernel_rfl) (fun y : Int × Bool => .tuple [.d (.int .i64 y.1), .d (.bool y.2)]) ?_ h
  unfold tb_find
  simp only [List.replicate, List.length, nS, nA, Tryd.ntmps95, SV]
  refine Mir.seqK ?_
  refine Mir.region fun e h => ?_
  simp only [↓reduceIte, reduceCtorEq, nA, nS, nM, nE, nL, nT, nB, iT, iN, iE, and_self, SR, SV, encTableLength]
  refine Mir.use (e := e) ?_ h
  refine Mir.seqK ?_
  refine Mir.bind fun v129 hv34 => ?_
  refine Mir.region fun e h => ?_
  simp only [↓reduceIte, reduceCtorEq, nA, nS, nM, nE, nL, nT, nB, iT, iN, iE, and_self, SR, SV, fld_54_1, sz_52, ag_52, encTableLength]
  refine SpecS.inl Tryd.func109 rfl (by kernel_rfl) (by kernel_rfl) (fun v129 : Int × Bool => .tuple [.d (.int .i64 v129.1), .d (.bool v129.2)]) (fun v129 : Int × Bool => ⟨[[.d (.int .i64 a0.Work.e0.X), .d (.int .i64 a0.Work.e0.Y), .d (.int .i64 a0.Work.e0.Z), .d (.int .i64 a0.Work.e1.X), .d (.int .i64 a0.Work.e1.Y), .d (.int .i64 a0.Work.e1.Z), .d (.int .i64 a0.Work.e2.X), .d (.int .i64 a0.Work.e2.Y), .d (.int .i64 a0.Work.e2.Z), .d (.int .i64 a0.Work.e3.X), .d (.int .i64 a0.Work.e3.Y), .d (.int .i64 a0.Work.e3.Z), .d (.int .i64 a0.Work.e4.X), .d (.int .i64 a0.Work.e4.Y), .d (.int .i64 a0.Work.e4.Z), .d (.int .i64 a0.Work.e5.X), .d (.int .i64 a0.Work.e5.Y), .d (.int .i64 a0.Work.e5.Z), .d (.list (List.map encTableLength a0.Lengths))]], []⟩) hv34 rfl ?_ ?_
  ·simp only [List.replicate, List.length, nS, nA, Tryd.ntmps109, SV]
   refine Mir.seqK ?_
   refine Mir.region fun e h => ?_
   simp only [↓reduceIte, reduceCtorEq, nA, nS, nM, nE, nL, nT, nB, iT, iN, iE, and_self, SR, SV, encTableLength]
   refine Mir.use (e := e) ?_ h
   refine Mir.seqK ?_
   refine Mir.region fun e h => ?_
   simp only [↓reduceIte, reduceCtorEq, nA, nS, nM, nE, nL, nT, nB, iT, iN, iE, and_self, SR, SV, und_52, encTableLength]
   refine Mir.use (e := e) ?_ h
   refine Mir.seqK ?_
   refine Mir.region fun e h => ?_
   simp only [↓reduceIte, reduceCtorEq, nA, nS, nM, nE, nL, nT, nB, iT, iN, iE, and_self, SR, SV, encTableLength]
   refine Mir.use (e := e) ?_ h
   refine Mir.seqK ?_
   refine Mir.joinO (fun v142 : Int => [.d (.list (List.map encTableLength a0.Lengths)), .d (.int .i64 a1), .fn 110 [], U, U, U, U, U, .d (.int .i64 (a0.Lengths.length : Int)), .d (.int .i64 v142), U, U, U, U, U, U, U, U, U, U, U, U, U, U, U, U, U, U, U, U, U, U, U, U, U, U, U, U, U, U, U, U, U, U, U, U, U, U, U]) (fun v142 : Int => ⟨[[.d (.int .i64 a0.Work.e0.X), .d (.int .i64 a0.Work.e0.Y), .d (.int .i64 a0.Work.e0.Z), .d (.int .i64 a0.Work.e1.X), .d (.int .i64 a0.Work.e1.Y), .d (.int .i64 a0.Work.e1.Z), .d (.int .i64 a0.Work.e2.X), .d (.int .i64 a0.Work.e2.Y), .d (.int .i64 a0.Work.e2.Z), .d (.int .i64 a0.Work.e3.X), .d (.int .i64 a0.Work.e3.Y), .d (.int .i64 a0.Work.e3.Z), .d (.int .i64 a0.Work.e4.X), .d (.int .i64 a0.Work.e4.Y), .d (.int .i64 a0.Work.e4.Z), .d (.int .i64 a0.Work.e5.X), .d (.int .i64 a0.Work.e5.Y), .d (.int .i64 a0.Work.e5.Z), .d (.list (List.map encTableLength a0.Lengths))]], []⟩) (fun _ => rfl) ?_ ?_
   ·refine Mir.block ?_
    refine Mir.loop (fun v152 : Int × Int => [.d (.list (List.map encTableLength a0.Lengths)), .d (.int .i64 a1), .fn 110 [], U, U, U, U, U, .d (.int .i64 (a0.Lengths.length : Int)), .d (.int .i64 v152.1), .d (.int .i64 v152.2), U, U, U, U, U, U, U, U, U, U, U, U, U, U, U, U, U, U, U, U, U, U, U, U, U, U, U, U, U, U, U, U, U, U, U, U, U, U]) (fun v152 : Int × Int => ⟨[[.d (.int .i64 a0.Work.e0.X), .d (.int .i64 a0.Work.e0.Y), .d (.int .i64 a0.Work.e0.Z), .d (.int .i64 a0.Work.e1.X), .d (.int .i64 a0.Work.e1.Y), .d (.int .i64 a0.Work.e1.Z), .d (.int .i64 a0.Work.e2.X), .d (.int .i64 a0.Work.e2.Y), .d (.int .i64 a0.Work.e2.Z), .d (.int .i64 a0.Work.e3.X), .d (.int .i64 a0.Work.e3.Y), .d (.int .i64 a0.Work.e3.Z), .d (.int .i64 a0.Work.e4.X), .d (.int .i64 a0.Work.e4.Y), .d (.int .i64 a0.Work.e4.Z), .d (.int .i64 a0.Work.e5.X), .d (.int .i64 a0.Work.e5.Y), .d (.int .i64 a0.Work.e5.Z), .d (.list (List.map encTableLength a0.Lengths))]], []⟩) (fun _ => rfl) (by simp only [↓reduceIte, reduceCtorEq, nA, nE, nL, and_self, and_true, true_and, SL, encTableLength]) (by simp only [↓reduceIte, reduceCtorEq, nA, nE, nL, and_self, and_true, true_and, SL, encTableLength]) fun v152 => ?_
    refine Mir.seqK ?_
    refine Mir.seqK ?_
    refine Mir.region fun e h => ?_
    simp only [↓reduceIte, reduceCtorEq, nA, nS, nM, nE, nL, nT, nB, iT, iN, iE, and_self, SR, SV, encTableLength]
    refine Mir.use (e := e) ?_ h
    refine Mir.cond rfl (fun hb61 => ?_) (fun hb61 => ?_)
    ·refine Mir.skip ?_
     refine Mir.toK ?_
     refine Mir.block ?_
     refine Mir.seqK ?_
     refine Mir.region fun e h => ?_
     simp only [↓reduceIte, reduceCtorEq, nA, nS, nM, nE, nL, nT, nB, iT, iN, iE, and_self, SR, SV, und_3, und_187, encTableLength]
     refine Mir.use (e := e) ?_ h
     refine Mir.seqK ?_
     refine Mir.bind fun e153 q62 => ?_
     replace q62 := gt_ok q62
     refine Mir.bind fun y154 hy63 => ?_
     refine Mir.region fun e h => ?_
     simp only [↓reduceIte, reduceCtorEq, nA, nS, nM, nE, nL, nT, nB, iT, iN, iE, and_self, SR, SV, und_52, sz_100, q62, ag_100, encTableLength]
     refine SpecS.by (tb_find_c1_spec hy63) (by simp only [↓reduceIte, reduceCtorEq, nA, nE, nL, and_self, and_true, true_and, SL, encTableLength]) ?_
     simp only [↓reduceIte, reduceCtorEq, nA, nS, nM, nE, nL, nT, nB, iT, iN, iE, and_self, SR, SV, encTableLength]
     refine Mir.use (e := e) ?_ h
     refine Mir.cond rfl (fun hb64 => ?_) (fun hb64 => ?_)
     ·refine Mir.region fun e h => ?_
      simp only [↓reduceIte, reduceCtorEq, nA, nS, nM, nE, nL, nT, nB, iT, iN, iE, and_self, SR, SV, encTableLength]
      cases h
      simp only [↓reduceIte, reduceCtorEq, nA, nE, nL, and_self, and_true, true_and, SL, encTableLength, Tryd.results109]
     ·refine Mir.region fun e h => ?_
      simp only [↓reduceIte, reduceCtorEq, nA, nS, nM, nE, nL, nT, nB, iT, iN, iE, and_self, SR, SV, encTableLength]
      cases h
      simp only [↓reduceIte, reduceCtorEq, nA, nE, nL, and_self, and_true, true_and, SL, encTableLength, Tryd.results109]
    ·refine Mir.exit fun e h => ?_
     cases h
     simp only [↓reduceIte, reduceCtorEq, nA, nE, nL, and_self, and_true, true_and, SL, encTableLength, Tryd.results109]
   ·intro v142
    refine Mir.toK ?_
    refine Mir.seqK ?_
    refine Mir.joinO (fun v157 : Bool => [U, U, U, U, U, U, .d (.int .i64 v142), .d (.bool v157), U, U, U, U, U, U, U, U, U, U, U, U, U, U, U, U, U, U, U, U, U, U, U, U, U, U, U, U, U, U, U, U, U, U, U, U, U, U, U, U, U]) (fun v157 : Bool => ⟨[[.d (.int .i64 a0.Work.e0.X), .d (.int .i64 a0.Work.e0.Y), .d (.int .i64 a0.Work.e0.Z), .d (.int .i64 a0.Work.e1.X), .d (.int .i64 a0.Work.e1.Y), .d (.int .i64 a0.Work.e1.Z), .d (.int .i64 a0.Work.e2.X), .d (.int .i64 a0.Work.e2.Y), .d (.int .i64 a0.Work.e2.Z), .d (.int .i64 a0.Work.e3.X), .d (.int .i64 a0.Work.e3.Y), .d (.int .i64 a0.Work.e3.Z), .d (.int .i64 a0.Work.e4.X), .d (.int .i64 a0.Work.e4.Y), .d (.int .i64 a0.Work.e4.Z), .d (.int .i64 a0.Work.e5.X), .d (.int .i64 a0.Work.e5.Y), .d (.int .i64 a0.Work.e5.Z), .d (.list (List.map encTableLength a0.Lengths))]], []⟩) (fun _ => rfl) ?_ ?_
    ·refine Mir.ite (fun hb65 => ?_) (fun hb65 => ?_)
     ·refine Mir.bind fun e155 q66 => ?_
      replace q66 := gt_ok q66
      refine Mir.bind fun y156 hy67 => ?_
      refine Mir.region fun e h => ?_
      simp only [↓reduceIte, reduceCtorEq, nA, nS, nM, nE, nL, nT, nB, iT, iN, iE, and_self, SR, SV, und_52, sz_100, q66, ag_100, encTableLength, hb65]
      refine SpecS.by (tb_find_c1_spec hy67) (by simp only [↓reduceIte, reduceCtorEq, nA, nE, nL, and_self, and_true, true_and, SL, encTableLength, hb65]) ?_
      simp only [↓reduceIte, reduceCtorEq, nA, nS, nM, nE, nL, nT, nB, iT, iN, iE, and_self, SR, SV, encTableLength, hb65]
      cases h
      simp only [↓reduceIte, reduceCtorEq, nA, nE, nL, and_self, and_true, true_and, SL, encTableLength, hb65]
     ·refine Mir.region fun e h => ?_
      simp only [↓reduceIte, reduceCtorEq, nA, nS, nM, nE, nL, nT, nB, iT, iN, iE, and_self, SR, SV, encTableLength, hb65]
      cases h
      simp only [↓reduceIte, reduceCtorEq, nA, nE, nL, and_self, and_true, true_and, SL, encTableLength, hb65]
    ·intro v157
     refine Mir.toK ?_
     refine Mir.ret fun e h => ?_
     cases h
     simp only [↓reduceIte, reduceCtorEq, nA, nE, nL, and_self, and_true, true_and, SL, encTableLength, Tryd.results109]
  simp only [↓reduceIte, reduceCtorEq, nA, nS, nM, nE, nL, nT, nB, iT, iN, iE, and_self, SR, SV, encTableLength]
  refine Mir.use (e := e) ?_ h
  refine Mir.ret fun e h => ?_
  cases h
  simp only [↓reduceIte, reduceCtorEq, nA, nE, nL, and_self, and_true, true_and, SL, encTableLength, Tryd.results95]

def tb_length (a0 : TableTable) (a1 : Int) : Option (Int × Int) :=
  if (a1 == 0) = true then
    some (0, 0)
  else
    bindO (tb_find (TableTable.mk a0.Work a0.Lengths) a1) fun (y101 : Int × Bool) =>
    if (!y101.2) = true then
      some (0, 4)
    else
      bindO (gt a0.Lengths y101.1) fun (e102 : TableLength) =>
      some (e102.Length, 0)
theorem tb_length_spec {a0 : TableTable} {a1 : Int} {y : Int × Int} (h : tb_length a0 a1 = some y) : Spec gP 85 [.agg [.d (.int .i64 a0.Work.e0.X), .d (.int .i64 a0.Work.e0.Y), .d (.int .i64 a0.Work.e0.Z), .d (.int .i64 a0.Work.e1.X), .d (.int .i64 a0.Work.e1.Y), .d (.int .i64 a0.Work.e1.Z), .d (.int .i64 a0.Work.e2.X), .d (.int .i64 a0.Work.e2.Y), .d (.int .i64 a0.Work.e2.Z), .d (.int .i64 a0.Work.e3.X), .d (.int .i64 a0.Work.e3.Y), .d (.int .i64 a0.Work.e3.Z), .d (.int .i64 a0.Work.e4.X), .d (.int .i64 a0.Work.e4.Y), .d (.int .i64 a0.Work.e4.Z), .d (.int .i64 a0.Work.e5.X), .d (.int .i64 a0.Work.e5.Y), .d (.int .i64 a0.Work.e5.Z), .d (.list (List.map encTableLength a0.Lengths))], .d (.int .i64 a1)] (.tuple [.d (.int .i64 y.1), .d (.int .i64 y.2)]) := by
  refine spec_mir Tryd.func85 rfl (by kernel_rfl) (by kernel_rfl) (fun y : Int × Int => .tuple [.d (.int .i64 y.1), .d (.int .i64 y.2)]) ?_ h
  unfold tb_length
  simp only [List.replicate, List.length, nS, nA, Tryd.ntmps85, SV]
  refine Mir.seqK ?_
  refine Mir.region fun e h => ?_
  simp only [↓reduceIte, reduceCtorEq, nA, nS, nM, nE, nL, nT, nB, iT, iN, iE, and_self, SR, SV, encTableLength]
  refine Mir.use (e := e) ?_ h
  refine Mir.seqK ?_
  refine Mir.seqK ?_
  refine Mir.region fun e h => ?_
  simp only [↓reduceIte, reduceCtorEq, nA, nS, nM, nE, nL, nT, nB, iT, iN, iE, and_self, SR, SV, encTableLength]
  refine Mir.use (e := e) ?_ h
  refine Mir.cond rfl (fun hb2 => ?_) (fun hb2 => ?_)
  ·refine Mir.seqK ?_
   refine Mir.region fun e h => ?_
   simp only [↓reduceIte, reduceCtorEq, nA, nS, nM, nE, nL, nT, nB, iT, iN, iE, and_self, SR, SV, encTableLength]
   refine Mir.use (e := e) ?_ h
   refine Mir.ret fun e h => ?_
   cases h
   simp only [↓reduceIte, reduceCtorEq, nA, nE, nL, and_self, and_true, true_and, SL, encTableLength, Tryd.results85]
  ·refine Mir.skip ?_
   refine Mir.toK ?_
   refine Mir.seqK ?_
   refine Mir.bind fun y101 hy3 => ?_
   refine Mir.region fun e h => ?_
   simp only [↓reduceIte, reduceCtorEq, nA, nS, nM, nE, nL, nT, nB, iT, iN, iE, and_self, SR, SV, ag_54, sz_54, encTableLength]
   refine SpecS.by (tb_find_spec hy3) (by simp only [↓reduceIte, reduceCtorEq, nA, nE, nL, and_self, and_true, true_and, SL, encTableLength]) ?_
   simp only [↓reduceIte, reduceCtorEq, nA, nS, nM, nE, nL, nT, nB, iT, iN, iE, and_self, SR, SV, encTableLength]
   refine Mir.use (e := e) ?_ h
   refine Mir.seqK ?_
   refine Mir.seqK ?_
   refine Mir.region fun e h => ?_
   simp only [↓reduceIte, reduceCtorEq, nA, nS, nM, nE, nL, nT, nB, iT, iN, iE, and_self, SR, SV, encTableLength]
   refine Mir.use (e := e) ?_ h
   refine Mir.cond rfl (fun hb5 => ?_) (fun hb5 => ?_)
   ·refine Mir.seqK ?_
    refine Mir.region fun e h => ?_
    simp only [↓reduceIte, reduceCtorEq, nA, nS, nM, nE, nL, nT, nB, iT, iN, iE, and_self, SR, SV, encTableLength]
    refine Mir.use (e := e) ?_ h
    refine Mir.ret fun e h => ?_
    cases h
    simp only [↓reduceIte, reduceCtorEq, nA, nE, nL, and_self, and_true, true_and, SL, encTableLength, Tryd.results85]
   ·refine Mir.skip ?_
    refine Mir.toK ?_
    refine Mir.seqK ?_
    refine Mir.bind fun e102 q6 => ?_
    replace q6 := gt_ok q6
    refine Mir.region fun e h => ?_
    simp only [↓reduceIte, reduceCtorEq, nA, nS, nM, nE, nL, nT, nB, iT, iN, iE, and_self, SR, SV, fld_54_1, sz_52, ag_52, und_52, sz_100, q6, fld_100_1, sz_2, ag_2, encTableLength]
    refine Mir.use (e := e) ?_ h
    refine Mir.ret fun e h => ?_
    cases h
    simp only [↓reduceIte, reduceCtorEq, nA, nE, nL, and_self, and_true, true_and, SL, encTableLength, Tryd.results85]

def tb_offset (a0 : TableTable) (a1 : Int) (a2 : Int) : Option (ApiPos × Int) :=
  bindO (tb_Valid a0) fun (y101 : Int) =>
  if (y101 != 0) = true then
    some (ApiPos.mk 0 0 0, y101)
  else
    bindO (tb_slot a1) fun (y102 : Int × Int) =>
    bindO (tb_length (TableTable.mk a0.Work a0.Lengths) a2) fun (y103 : Int × Int) =>
    if ((y102.2 != 0) || (y103.2 != 0)) = true then
      some (ApiPos.mk 0 0 0, 4)
    else
      bindO (guardO (decide (0 ≤ y102.1 ∧ y102.1 < 6)) (
          if (y102.1 == 0) = true then
            some a0.Work.e0
          else
            if (y102.1 == 1) = true then
              some a0.Work.e1
            else
              if (y102.1 == 2) = true then
                some a0.Work.e2
              else
                if (y102.1 == 3) = true then
                  some a0.Work.e3
                else
                  if (y102.1 == 4) = true then
                    some a0.Work.e4
                  else
                    some a0.Work.e5)) fun (v104 : ApiPos) =>
      some (ApiPos.mk v104.X v104.Y (IntKind.i64.wrap (v104.Z + y103.1)), 0)
theorem tb_offset_spec {a0 : TableTable} {a1 : Int} {a2 : Int} {y : ApiPos × Int} (h : tb_offset a0 a1 a2 = some y) : Spec gP 71 [.agg [.d (.int .i64 a0.Work.e0.X), .d (.int .i64 a0.Work.e0.Y), .d (.int .i64 a0.Work.e0.Z), .d (.int .i64 a0.Work.e1.X), .d (.int .i64 a0.Work.e1.Y), .d (.int .i64 a0.Work.e1.Z), .d (.int .i64 a0.Work.e2.X), .d (.int .i64 a0.Work.e2.Y), .d (.int .i64 a0.Work.e2.Z), .d (.int .i64 a0.Work.e3.X), .d (.int .i64 a0.Work.e3.Y), .d (.int .i64 a0.Work.e3.Z), .d (.int .i64 a0.Work.e4.X), .d (.int .i64 a0.Work.e4.Y), .d (.int .i64 a0.Work.e4.Z), .d (.int .i64 a0.Work.e5.X), .d (.int .i64 a0.Work.e5.Y), .d (.int .i64 a0.Work.e5.Z), .d (.list (List.map encTableLength a0.Lengths))], .d (.int .i64 a1), .d (.int .i64 a2)] (.tuple [.agg [.d (.int .i64 y.1.X), .d (.int .i64 y.1.Y), .d (.int .i64 y.1.Z)], .d (.int .i64 y.2)]) := by
  refine spec_mir Tryd.func71 rfl (by kernel_rfl) (by kernel_rfl) (fun y : ApiPos × Int => .tuple [.agg [.d (.int .i64 y.1.X), .d (.int .i64 y.1.Y), .d (.int .i64 y.1.Z)], .d (.int .i64 y.2)]) ?_ h
  unfold tb_offset
  simp only [List.replicate, List.length, nS, nA, Tryd.ntmps71, SV]
  refine Mir.seqK ?_
  refine Mir.region fun e h => ?_
  simp only [↓reduceIte, reduceCtorEq, nA, nS, nM, nE, nL, nT, nB, iT, iN, iE, and_self, SR, SV, zero_24, encTableLength]
  refine Mir.use (e := e) ?_ h
  refine Mir.seqK ?_
  refine Mir.seqK ?_
  refine Mir.bind fun y101 hy1 => ?_
  refine Mir.region fun e h => ?_
  simp only [↓reduceIte, reduceCtorEq, nA, nS, nM, nE, nL, nT, nB, iT, iN, iE, and_self, SR, SV, ag_54, sz_54, encTableLength]
  refine SpecS.by (tb_Valid_spec hy1) (by simp only [↓reduceIte, reduceCtorEq, nA, nE, nL, and_self, and_true, true_and, SL, encTableLength]) ?_
  simp only [↓reduceIte, reduceCtorEq, nA, nS, nM, nE, nL, nT, nB, iT, iN, iE, and_self, SR, SV, encTableLength]
  refine Mir.use (e := e) ?_ h
  refine Mir.seqK ?_
  refine Mir.region fun e h => ?_
  simp only [↓reduceIte, reduceCtorEq, nA, nS, nM, nE, nL, nT, nB, iT, iN, iE, and_self, SR, SV, encTableLength]
  refine Mir.use (e := e) ?_ h
  refine Mir.cond rfl (fun hb3 => ?_) (fun hb3 => ?_)
  ·refine Mir.seqK ?_
   refine Mir.region fun e h => ?_
   simp only [↓reduceIte, reduceCtorEq, nA, nS, nM, nE, nL, nT, nB, iT, iN, iE, and_self, SR, SV, zero_24, pl_24, sz_24, encTableLength]
   refine Mir.use (e := e) ?_ h
   refine Mir.ret fun e h => ?_
   cases h
   simp only [↓reduceIte, reduceCtorEq, nA, nE, nL, and_self, and_true, true_and, SL, encTableLength, Tryd.results71, ag_24, sz_24]
  ·refine Mir.skip ?_
   refine Mir.toK ?_
   refine Mir.seqK ?_
   refine Mir.bind fun y102 hy4 => ?_
   refine Mir.region fun e h => ?_
   simp only [↓reduceIte, reduceCtorEq, nA, nS, nM, nE, nL, nT, nB, iT, iN, iE, and_self, SR, SV, encTableLength]
   refine SpecS.by (tb_slot_spec hy4) (by simp only [↓reduceIte, reduceCtorEq, nA, nE, nL, and_self, and_true, true_and, SL, encTableLength]) ?_
   simp only [↓reduceIte, reduceCtorEq, nA, nS, nM, nE, nL, nT, nB, iT, iN, iE, and_self, SR, SV, encTableLength]
   refine Mir.use (e := e) ?_ h
   refine Mir.seqK ?_
   refine Mir.bind fun y103 hy5 => ?_
   refine Mir.region fun e h => ?_
   simp only [↓reduceIte, reduceCtorEq, nA, nS, nM, nE, nL, nT, nB, iT, iN, iE, and_self, SR, SV, ag_54, sz_54, encTableLength]
   refine SpecS.by (tb_length_spec hy5) (by simp only [↓reduceIte, reduceCtorEq, nA, nE, nL, and_self, and_true, true_and, SL, encTableLength]) ?_
   simp only [↓reduceIte, reduceCtorEq, nA, nS, nM, nE, nL, nT, nB, iT, iN, iE, and_self, SR, SV, encTableLength]
   refine Mir.use (e := e) ?_ h
   refine Mir.seqK ?_
   refine Mir.seqK ?_
   refine Mir.joinV [U, U, U, .ptr 0 0, U, U, .ptr 1 0, U, U, .d (.int .i64 y102.1), U, .d (.int .i64 y103.1), U, U, U, U, U, U, U, U, U, U, U, U, U, U, U, U, U, U, U, U, U, U, U, U, .d (.bool ((y102.2 != 0) || (y103.2 != 0))), U, U, U, U, U, U, U, U, U, U, U] ⟨[[.d (.int .i64 a0.Work.e0.X), .d (.int .i64 a0.Work.e0.Y), .d (.int .i64 a0.Work.e0.Z), .d (.int .i64 a0.Work.e1.X), .d (.int .i64 a0.Work.e1.Y), .d (.int .i64 a0.Work.e1.Z), .d (.int .i64 a0.Work.e2.X), .d (.int .i64 a0.Work.e2.Y), .d (.int .i64 a0.Work.e2.Z), .d (.int .i64 a0.Work.e3.X), .d (.int .i64 a0.Work.e3.Y), .d (.int .i64 a0.Work.e3.Z), .d (.int .i64 a0.Work.e4.X), .d (.int .i64 a0.Work.e4.Y), .d (.int .i64 a0.Work.e4.Z), .d (.int .i64 a0.Work.e5.X), .d (.int .i64 a0.Work.e5.Y), .d (.int .i64 a0.Work.e5.Z), .d (.list (List.map encTableLength a0.Lengths))], [.d (.int .i64 0), .d (.int .i64 0), .d (.int .i64 0)]], []⟩ rfl ?_ ?_
   ·refine SWs.region ?_
    rcases Bool.eq_false_or_eq_true (y102.2 != 0) with hb6 | hb6
    ·simp only [↓reduceIte, reduceCtorEq, nA, nS, nM, nE, nL, nT, nB, iT, iN, iE, and_self, SR, SV, SL, Bool.true_and, Bool.false_and, Bool.true_or, Bool.false_or, Bool.or_true, Bool.or_false, Bool.and_true, Bool.and_false, Bool.not_true, Bool.not_false, hb6, encTableLength]
    ·simp only [↓reduceIte, reduceCtorEq, nA, nS, nM, nE, nL, nT, nB, iT, iN, iE, and_self, SR, SV, SL, Bool.true_and, Bool.false_and, Bool.true_or, Bool.false_or, Bool.or_true, Bool.or_false, Bool.and_true, Bool.and_false, Bool.not_true, Bool.not_false, hb6, encTableLength]
   ·refine Mir.toK ?_
    refine Mir.cond rfl (fun hb8 => ?_) (fun hb8 => ?_)
    ·refine Mir.seqK ?_
     refine Mir.region fun e h => ?_
     simp only [↓reduceIte, reduceCtorEq, nA, nS, nM, nE, nL, nT, nB, iT, iN, iE, and_self, SR, SV, zero_24, pl_24, sz_24, encTableLength]
     refine Mir.use (e := e) ?_ h
     refine Mir.ret fun e h => ?_
     cases h
     simp only [↓reduceIte, reduceCtorEq, nA, nE, nL, and_self, and_true, true_and, SL, encTableLength, Tryd.results71, ag_24, sz_24]
    ·refine Mir.skip ?_
     refine Mir.toK ?_
     refine Mir.seqK ?_
     refine Mir.joinO (fun v104 : ApiPos => [U, U, U, U, U, U, .ptr 1 0, U, U, U, U, .d (.int .i64 y103.1), U, .ptr 2 0, U, U, U, U, U, U, U, U, U, U, U, U, U, U, U, U, U, U, U, U, U, U, U, U, U, U, U, U, U, U, U, U, U, U]) (fun v104 : ApiPos => ⟨[[.d (.int .i64 a0.Work.e0.X), .d (.int .i64 a0.Work.e0.Y), .d (.int .i64 a0.Work.e0.Z), .d (.int .i64 a0.Work.e1.X), .d (.int .i64 a0.Work.e1.Y), .d (.int .i64 a0.Work.e1.Z), .d (.int .i64 a0.Work.e2.X), .d (.int .i64 a0.Work.e2.Y), .d (.int .i64 a0.Work.e2.Z), .d (.int .i64 a0.Work.e3.X), .d (.int .i64 a0.Work.e3.Y), .d (.int .i64 a0.Work.e3.Z), .d (.int .i64 a0.Work.e4.X), .d (.int .i64 a0.Work.e4.Y), .d (.int .i64 a0.Work.e4.Z), .d (.int .i64 a0.Work.e5.X), .d (.int .i64 a0.Work.e5.Y), .d (.int .i64 a0.Work.e5.Z), .d (.list (List.map encTableLength a0.Lengths))], [.d (.int .i64 0), .d (.int .i64 0), .d (.int .i64 0)], [.d (.int .i64 v104.X), .d (.int .i64 v104.Y), .d (.int .i64 v104.Z)]], []⟩) (fun _ => rfl) ?_ ?_
     ·refine Mir.guard fun qi9 => ?_
      refine Mir.ite (fun hb10 => ?_) (fun hb10 => ?_)
      ·refine Mir.region fun e h => ?_
       simp only [↓reduceIte, reduceCtorEq, nA, nS, nM, nE, nL, nT, nB, iT, iN, iE, and_self, SR, SV, fld_54_0, sz_25, und_25, (eq_of_beq hb10), sz_24, ag_24, zero_24, encTableLength, hb10]
       cases h
       simp only [↓reduceIte, reduceCtorEq, nA, nE, nL, and_self, and_true, true_and, SL, encTableLength, hb10]
      ·refine Mir.ite (fun hb11 => ?_) (fun hb11 => ?_)
       ·refine Mir.region fun e h => ?_
        simp only [↓reduceIte, reduceCtorEq, nA, nS, nM, nE, nL, nT, nB, iT, iN, iE, and_self, SR, SV, fld_54_0, sz_25, und_25, (eq_of_beq hb11), sz_24, ag_24, zero_24, encTableLength, hb10, hb11]
        cases h
        simp only [↓reduceIte, reduceCtorEq, nA, nE, nL, and_self, and_true, true_and, SL, encTableLength, hb10, hb11]
       ·refine Mir.ite (fun hb12 => ?_) (fun hb12 => ?_)
        ·refine Mir.region fun e h => ?_
         simp only [↓reduceIte, reduceCtorEq, nA, nS, nM, nE, nL, nT, nB, iT, iN, iE, and_self, SR, SV, fld_54_0, sz_25, und_25, (eq_of_beq hb12), sz_24, ag_24, zero_24, encTableLength, hb10, hb11, hb12]
         cases h
         simp only [↓reduceIte, reduceCtorEq, nA, nE, nL, and_self, and_true, true_and, SL, encTableLength, hb10, hb11, hb12]
        ·refine Mir.ite (fun hb13 => ?_) (fun hb13 => ?_)
         ·refine Mir.region fun e h => ?_
          simp only [↓reduceIte, reduceCtorEq, nA, nS, nM, nE, nL, nT, nB, iT, iN, iE, and_self, SR, SV, fld_54_0, sz_25, und_25, (eq_of_beq hb13), sz_24, ag_24, zero_24, encTableLength, hb10, hb11, hb12, hb13]
          cases h
          simp only [↓reduceIte, reduceCtorEq, nA, nE, nL, and_self, and_true, true_and, SL, encTableLength, hb10, hb11, hb12, hb13]
         ·refine Mir.ite (fun hb14 => ?_) (fun hb14 => ?_)
          ·refine Mir.region fun e h => ?_
           simp only [↓reduceIte, reduceCtorEq, nA, nS, nM, nE, nL, nT, nB, iT, iN, iE, and_self, SR, SV, fld_54_0, sz_25, und_25, (eq_of_beq hb14), sz_24, ag_24, zero_24, encTableLength, hb10, hb11, hb12, hb13, hb14]
           cases h
           simp only [↓reduceIte, reduceCtorEq, nA, nE, nL, and_self, and_true, true_and, SL, encTableLength, hb10, hb11, hb12, hb13, hb14]
          ·have hz15 : y102.1 = 5 := by have h0 := of_decide_eq_true qi9; have h1 := ne_of_beq_false hb10; have h2 := ne_of_beq_false hb11; have h3 := ne_of_beq_false hb12; have h4 := ne_of_beq_false hb13; have h5 := ne_of_beq_false hb14; omega
           refine Mir.region fun e h => ?_
           simp only [↓reduceIte, reduceCtorEq, nA, nS, nM, nE, nL, nT, nB, iT, iN, iE, and_self, SR, SV, fld_54_0, sz_25, und_25, hz15, sz_24, ag_24, zero_24, encTableLength, hb10, hb11, hb12, hb13, hb14]
           cases h
           simp only [↓reduceIte, reduceCtorEq, nA, nE, nL, and_self, and_true, true_and, SL, encTableLength, hb10, hb11, hb12, hb13, hb14]
     ·intro v104
      refine Mir.toK ?_
      refine Mir.seqK ?_
      refine Mir.region fun e h => ?_
      simp only [↓reduceIte, reduceCtorEq, nA, nS, nM, nE, nL, nT, nB, iT, iN, iE, and_self, SR, SV, fld_24_2, sz_2, ag_2, encTableLength]
      refine Mir.use (e := e) ?_ h
      refine Mir.seqK ?_
      refine Mir.region fun e h => ?_
      simp only [↓reduceIte, reduceCtorEq, nA, nS, nM, nE, nL, nT, nB, iT, iN, iE, and_self, SR, SV, ag_24, sz_24, encTableLength]
      refine Mir.use (e := e) ?_ h
      refine Mir.ret fun e h => ?_
      cases h
      simp only [↓reduceIte, reduceCtorEq, nA, nE, nL, and_self, and_true, true_and, SL, encTableLength, Tryd.results71, ag_24, sz_24]

def tb_moved (a0 : ApiPos) (a1 : ApiPos) (a2 : Int) : Option (ApiPos × Int) :=
  bindO (tb_far a0) fun (y101 : Bool) =>
  if y101 = true then
    some (ApiPos.mk 0 0 0, 11)
  else
    bindO (tb_far (ApiPos.mk (IntKind.i64.wrap (a0.X + (IntKind.i64.wrap (a2 * a1.X)))) (IntKind.i64.wrap (a0.Y + (IntKind.i64.wrap (a2 * a1.Y)))) (IntKind.i64.wrap (a0.Z + (IntKind.i64.wrap (a2 * a1.Z)))))) fun (y102 : Bool) =>
    if y102 = true then
      some (ApiPos.mk 0 0 0, 11)
    else
      some (ApiPos.mk (IntKind.i64.wrap (a0.X + (IntKind.i64.wrap (a2 * a1.X)))) (IntKind.i64.wrap (a0.Y + (IntKind.i64.wrap (a2 * a1.Y)))) (IntKind.i64.wrap (a0.Z + (IntKind.i64.wrap (a2 * a1.Z)))), 0)
theorem tb_moved_spec {a0 : ApiPos} {a1 : ApiPos} {a2 : Int} {y : ApiPos × Int} (h : tb_moved a0 a1 a2 = some y) : Spec gP 72 [.agg [.d (.int .i64 a0.X), .d (.int .i64 a0.Y), .d (.int .i64 a0.Z)], .agg [.d (.int .i64 a1.X), .d (.int .i64 a1.Y), .d (.int .i64 a1.Z)], .d (.int .i64 a2)] (.tuple [.agg [.d (.int .i64 y.1.X), .d (.int .i64 y.1.Y), .d (.int .i64 y.1.Z)], .d (.int .i64 y.2)]) := by
  refine spec_mir Tryd.func72 rfl (by kernel_rfl) (by kernel_rfl) (fun y : ApiPos × Int => .tuple [.agg [.d (.int .i64 y.1.X), .d (.int .i64 y.1.Y), .d (.int .i64 y.1.Z)], .d (.int .i64 y.2)]) ?_ h
  unfold tb_moved
  simp only [List.replicate, List.length, nS, nA, Tryd.ntmps72, SV]
  refine Mir.seqK ?_
  refine Mir.region fun e h => ?_
  simp only [↓reduceIte, reduceCtorEq, nA, nS, nM, nE, nL, nT, nB, iT, iN, iE, and_self, SR, SV, zero_24]
  refine Mir.use (e := e) ?_ h
  refine Mir.seqK ?_
  refine Mir.seqK ?_
  refine Mir.bind fun y101 hy1 => ?_
  refine Mir.region fun e h => ?_
  simp only [↓reduceIte, reduceCtorEq, nA, nS, nM, nE, nL, nT, nB, iT, iN, iE, and_self, SR, SV, ag_24, sz_24]
  refine SpecS.by (tb_far_spec hy1) (by simp only [↓reduceIte, reduceCtorEq, nA, nE, nL, and_self, and_true, true_and, SL]) ?_
  simp only [↓reduceIte, reduceCtorEq, nA, nS, nM, nE, nL, nT, nB, iT, iN, iE, and_self, SR, SV]
  refine Mir.use (e := e) ?_ h
  refine Mir.cond rfl (fun hb3 => ?_) (fun hb3 => ?_)
  ·refine Mir.seqK ?_
   refine Mir.region fun e h => ?_
   simp only [↓reduceIte, reduceCtorEq, nA, nS, nM, nE, nL, nT, nB, iT, iN, iE, and_self, SR, SV, zero_24, pl_24, sz_24]
   refine Mir.use (e := e) ?_ h
   refine Mir.ret fun e h => ?_
   cases h
   simp only [↓reduceIte, reduceCtorEq, nA, nE, nL, and_self, and_true, true_and, SL, Tryd.results72, ag_24, sz_24]
  ·refine Mir.skip ?_
   refine Mir.toK ?_
   refine Mir.seqK ?_
   refine Mir.region fun e h => ?_
   simp only [↓reduceIte, reduceCtorEq, nA, nS, nM, nE, nL, nT, nB, iT, iN, iE, and_self, SR, SV, fld_24_0, sz_2, ag_2, fld_24_1, fld_24_2, zero_24, pl_24, sz_24]
   refine Mir.use (e := e) ?_ h
   refine Mir.seqK ?_
   refine Mir.seqK ?_
   refine Mir.bind fun y102 hy4 => ?_
   refine Mir.region fun e h => ?_
   simp only [↓reduceIte, reduceCtorEq, nA, nS, nM, nE, nL, nT, nB, iT, iN, iE, and_self, SR, SV, ag_24, sz_24]
   refine SpecS.by (tb_far_spec hy4) (by simp only [↓reduceIte, reduceCtorEq, nA, nE, nL, and_self, and_true, true_and, SL]) ?_
   simp only [↓reduceIte, reduceCtorEq, nA, nS, nM, nE, nL, nT, nB, iT, iN, iE, and_self, SR, SV]
   refine Mir.use (e := e) ?_ h
   refine Mir.cond rfl (fun hb6 => ?_) (fun hb6 => ?_)
   ·refine Mir.seqK ?_
    refine Mir.region fun e h => ?_
    simp only [↓reduceIte, reduceCtorEq, nA, nS, nM, nE, nL, nT, nB, iT, iN, iE, and_self, SR, SV, zero_24, pl_24, sz_24]
    refine Mir.use (e := e) ?_ h
    refine Mir.ret fun e h => ?_
    cases h
    simp only [↓reduceIte, reduceCtorEq, nA, nE, nL, and_self, and_true, true_and, SL, Tryd.results72, ag_24, sz_24]
   ·refine Mir.skip ?_
    refine Mir.toK ?_
    refine Mir.seqK ?_
    refine Mir.region fun e h => ?_
    simp only [↓reduceIte, reduceCtorEq, nA, nS, nM, nE, nL, nT, nB, iT, iN, iE, and_self, SR, SV, ag_24, sz_24]
    refine Mir.use (e := e) ?_ h
    refine Mir.ret fun e h => ?_
    cases h
    simp only [↓reduceIte, reduceCtorEq, nA, nE, nL, and_self, and_true, true_and, SL, Tryd.results72, ag_24, sz_24]

def tb_Work (a0 : TableTable) (a1 : Int) (a2 : Int) (a3 : ApiPos) : Option (ApiPos × Int) :=
  bindO (tb_offset (TableTable.mk a0.Work a0.Lengths) a1 a2) fun (y101 : ApiPos × Int) =>
  if (y101.2 != 0) = true then
    some (ApiPos.mk 0 0 0, y101.2)
  else
    bindO (tb_moved a3 y101.1 (-1)) fun (y102 : ApiPos × Int) =>
    some (y102.1, y102.2)
theorem tb_Work_spec {a0 : TableTable} {a1 : Int} {a2 : Int} {a3 : ApiPos} {y : ApiPos × Int} (h : tb_Work a0 a1 a2 a3 = some y) : Spec gP 53 [.agg [.d (.int .i64 a0.Work.e0.X), .d (.int .i64 a0.Work.e0.Y), .d (.int .i64 a0.Work.e0.Z), .d (.int .i64 a0.Work.e1.X), .d (.int .i64 a0.Work.e1.Y), .d (.int .i64 a0.Work.e1.Z), .d (.int .i64 a0.Work.e2.X), .d (.int .i64 a0.Work.e2.Y), .d (.int .i64 a0.Work.e2.Z), .d (.int .i64 a0.Work.e3.X), .d (.int .i64 a0.Work.e3.Y), .d (.int .i64 a0.Work.e3.Z), .d (.int .i64 a0.Work.e4.X), .d (.int .i64 a0.Work.e4.Y), .d (.int .i64 a0.Work.e4.Z), .d (.int .i64 a0.Work.e5.X), .d (.int .i64 a0.Work.e5.Y), .d (.int .i64 a0.Work.e5.Z), .d (.list (List.map encTableLength a0.Lengths))], .d (.int .i64 a1), .d (.int .i64 a2), .agg [.d (.int .i64 a3.X), .d (.int .i64 a3.Y), .d (.int .i64 a3.Z)]] (.tuple [.agg [.d (.int .i64 y.1.X), .d (.int .i64 y.1.Y), .d (.int .i64 y.1.Z)], .d (.int .i64 y.2)]) := by
  refine spec_mir Tryd.func53 rfl (by kernel_rfl) (by kernel_rfl) (fun y : ApiPos × Int => .tuple [.agg [.d (.int .i64 y.1.X), .d (.int .i64 y.1.Y), .d (.int .i64 y.1.Z)], .d (.int .i64 y.2)]) ?_ h
  unfold tb_Work
  simp only [List.replicate, List.length, nS, nA, Tryd.ntmps53, SV]
  refine Mir.seqK ?_
  refine Mir.region fun e h => ?_
  simp only [↓reduceIte, reduceCtorEq, nA, nS, nM, nE, nL, nT, nB, iT, iN, iE, and_self, SR, SV, zero_24, encTableLength]
  refine Mir.use (e := e) ?_ h
  refine Mir.seqK ?_
  refine Mir.bind fun y101 hy1 => ?_
  refine Mir.region fun e h => ?_
  simp only [↓reduceIte, reduceCtorEq, nA, nS, nM, nE, nL, nT, nB, iT, iN, iE, and_self, SR, SV, ag_54, sz_54, encTableLength]
  refine SpecS.by (tb_offset_spec hy1) (by simp only [↓reduceIte, reduceCtorEq, nA, nE, nL, and_self, and_true, true_and, SL, encTableLength]) ?_
  simp only [↓reduceIte, reduceCtorEq, nA, nS, nM, nE, nL, nT, nB, iT, iN, iE, and_self, SR, SV, zero_24, sz_24, encTableLength]
  refine Mir.use (e := e) ?_ h
  refine Mir.seqK ?_
  refine Mir.seqK ?_
  refine Mir.region fun e h => ?_
  simp only [↓reduceIte, reduceCtorEq, nA, nS, nM, nE, nL, nT, nB, iT, iN, iE, and_self, SR, SV, encTableLength]
  refine Mir.use (e := e) ?_ h
  refine Mir.cond rfl (fun hb3 => ?_) (fun hb3 => ?_)
  ·refine Mir.seqK ?_
   refine Mir.region fun e h => ?_
   simp only [↓reduceIte, reduceCtorEq, nA, nS, nM, nE, nL, nT, nB, iT, iN, iE, and_self, SR, SV, zero_24, pl_24, sz_24, encTableLength]
   refine Mir.use (e := e) ?_ h
   refine Mir.ret fun e h => ?_
   cases h
   simp only [↓reduceIte, reduceCtorEq, nA, nE, nL, and_self, and_true, true_and, SL, encTableLength, Tryd.results53, ag_24, sz_24]
  ·refine Mir.skip ?_
   refine Mir.toK ?_
   refine Mir.seqK ?_
   refine Mir.bind fun y102 hy4 => ?_
   refine Mir.region fun e h => ?_
   simp only [↓reduceIte, reduceCtorEq, nA, nS, nM, nE, nL, nT, nB, iT, iN, iE, and_self, SR, SV, ag_24, sz_24, encTableLength]
   refine SpecS.by (tb_moved_spec hy4) (by simp only [↓reduceIte, reduceCtorEq, nA, nE, nL, and_self, and_true, true_and, SL, encTableLength]) ?_
   simp only [↓reduceIte, reduceCtorEq, nA, nS, nM, nE, nL, nT, nB, iT, iN, iE, and_self, SR, SV, sz_24, encTableLength]
   refine Mir.use (e := e) ?_ h
   refine Mir.ret fun e h => ?_
   cases h
   simp only [↓reduceIte, reduceCtorEq, nA, nE, nL, and_self, and_true, true_and, SL, encTableLength, Tryd.results53, ag_24, sz_24]

def inp_target (a0 : ModalState) (a1 : ApiBlock) (a2 : ApiPos) : Option ApiPos :=
  bindO (bindO (bindO (bk_Find a1 88) fun (y113 : Int × Bool) =>
          if (!y113.2) = true then
            some a2.X
          else
            if (a0.Distance == 90000) = true then
              some y113.1
            else
              some (IntKind.i64.wrap (a2.X + y113.1))) fun (v112 : Int) =>
      bindO (bindO (bk_Find a1 89) fun (y116 : Int × Bool) =>
          if (!y116.2) = true then
            some a2.Y
          else
            if (a0.Distance == 90000) = true then
              some y116.1
            else
              some (IntKind.i64.wrap (a2.Y + y116.1))) fun (v115 : Int) =>
      bindO (bindO (bk_Find a1 90) fun (y119 : Int × Bool) =>
          if (!y119.2) = true then
            some a2.Z
          else
            if (a0.Distance == 90000) = true then
              some y119.1
            else
              some (IntKind.i64.wrap (a2.Z + y119.1))) fun (v118 : Int) =>
      some (ApiPos.mk v112 v115 v118)) fun (v110 : ApiPos) =>
  some v110
set_option maxHeartbeats 8000000 in
theorem inp_target_spec {a0 : ModalState} {a1 : ApiBlock} {a2 : ApiPos} {y : ApiPos} (h : inp_target a0 a1 a2 = some y) : Spec gP 73 [.agg [.d (.int .i64 a0.Motion), .d (.int .i64 a0.Distance), .d (.int .i64 a0.Work), .d (.int .i64 a0.Length), .d (.int .i64 a0.Return), .d (.int .i64 a0.Feed), .d (.int .i64 a0.Tool), .d (.int .i64 a0.Offset)], .agg [.d (.bool a1.Skip), .d (.list (List.map encApiWord a1.Words)), .d (.str a1.Comment)], .agg [.d (.int .i64 a2.X), .d (.int .i64 a2.Y), .d (.int .i64 a2.Z)]] (.agg [.d (.int .i64 y.X), .d (.int .i64 y.Y), .d (.int .i64 y.Z)]) := by
  refine spec_mir Tryd.func73 rfl (by kernel_rfl) (by kernel_rfl) (fun y : ApiPos => .agg [.d (.int .i64 y.X), .d (.int .i64 y.Y), .d (.int .i64 y.Z)]) ?_ h
  unfold inp_target
  simp only [List.replicate, List.length, nS, nA, Tryd.ntmps73, SV]
  refine Mir.seqK ?_
  refine Mir.region fun e h => ?_
  simp only [↓reduceIte, reduceCtorEq, nA, nS, nM, nE, nL, nT, nB, iT, iN, iE, and_self, SR, SV, zero_24, encApiWord]
  refine Mir.use (e := e) ?_ h
  refine Mir.seqK ?_
  refine Mir.seqK ?_
  refine Mir.region fun e h => ?_
  simp only [↓reduceIte, reduceCtorEq, nA, nS, nM, nE, nL, nT, nB, iT, iN, iE, and_self, SR, SV, fld_24_0, sz_2, zero_145, pl_145, fld_24_1, fld_24_2, und_146, sz_145, (nr rfl : okLen 6 = true), (nr rfl : ((3 : Nat) : Int) = 3), encApiWord]
  refine Mir.use (e := e) ?_ h
  refine Mir.joinO (fun v110 : ApiPos => [U, U, U, U, U, .ptr 2 0, .ptr 3 0, U, U, U, U, U, U, U, U, U, U, U, U, U, U, U, U, U, U, U, U, U, U, U, U, U, U, U, U, U, U, U, U, U, U, U, U, U, U, U, U, U, U, U]) (fun v110 : ApiPos => ⟨[[.d (.int .i64 a0.Motion), .d (.int .i64 a0.Distance), .d (.int .i64 a0.Work), .d (.int .i64 a0.Length), .d (.int .i64 a0.Return), .d (.int .i64 a0.Feed), .d (.int .i64 a0.Tool), .d (.int .i64 a0.Offset)], [.d (.bool a1.Skip), .d (.list (List.map encApiWord a1.Words)), .d (.str a1.Comment)], [.d (.int .i64 v110.X), .d (.int .i64 v110.Y), .d (.int .i64 v110.Z)], [.d (.int .i64 0), .d (.int .i64 0), .d (.int .i64 0)], [.d (.int .u8 88), .ptr 2 0, .d (.int .u8 89), .ptr 2 1, .d (.int .u8 90), .ptr 2 2]], []⟩) (fun _ => rfl) ?_ ?_
  ·refine Mir.block ?_
   refine Mir.loopR 15 ?_
   refine Mir.seqK ?_
   refine Mir.region fun e h => ?_
   simp only [↓reduceIte, reduceCtorEq, nA, nS, nM, nE, nL, nT, nB, iT, iN, iE, and_self, SR, SV, encApiWord]
   refine Mir.use (e := e) ?_ h
   refine Mir.seqK ?_
   refine Mir.condT rfl ?_
   refine Mir.skip ?_
   refine Mir.toK ?_
   refine Mir.seqK ?_
   refine Mir.joinO (fun v112 : Int => [U, U, U, .ptr 0 0, .ptr 1 0, .ptr 2 0, .ptr 3 0, U, U, U, U, U, U, U, U, U, U, .sl 4 0 3 3, .d (.int .i64 3), .d (.int .i64 0), U, U, U, U, U, U, U, U, U, U, U, U, U, U, U, U, U, U, U, U, U, U, U, U, U, U, U, U, U, U]) (fun v112 : Int => ⟨[[.d (.int .i64 a0.Motion), .d (.int .i64 a0.Distance), .d (.int .i64 a0.Work), .d (.int .i64 a0.Length), .d (.int .i64 a0.Return), .d (.int .i64 a0.Feed), .d (.int .i64 a0.Tool), .d (.int .i64 a0.Offset)], [.d (.bool a1.Skip), .d (.list (List.map encApiWord a1.Words)), .d (.str a1.Comment)], [.d (.int .i64 v112), .d (.int .i64 a2.Y), .d (.int .i64 a2.Z)], [.d (.int .i64 0), .d (.int .i64 0), .d (.int .i64 0)], [.d (.int .u8 88), .ptr 2 0, .d (.int .u8 89), .ptr 2 1, .d (.int .u8 90), .ptr 2 2]], []⟩) (fun _ => rfl) ?_ ?_
   ·refine Mir.block ?_
    refine Mir.seqK ?_
    refine Mir.region fun e h => ?_
    simp only [↓reduceIte, reduceCtorEq, nA, nS, nM, nE, nL, nT, nB, iT, iN, iE, and_self, SR, SV, und_146, sz_145, ag_145, zero_145, encApiWord]
    refine Mir.use (e := e) ?_ h
    refine Mir.seqK ?_
    refine Mir.bind fun y113 hy22 => ?_
    refine Mir.region fun e h => ?_
    simp only [↓reduceIte, reduceCtorEq, nA, nS, nM, nE, nL, nT, nB, iT, iN, iE, and_self, SR, SV, ag_42, sz_42, fld_145_0, sz_5, ag_5, encApiWord]
    refine SpecS.by (bk_Find_spec hy22) (by simp only [↓reduceIte, reduceCtorEq, nA, nE, nL, and_self, and_true, true_and, SL, encApiWord]) ?_
    simp only [↓reduceIte, reduceCtorEq, nA, nS, nM, nE, nL, nT, nB, iT, iN, iE, and_self, SR, SV, encApiWord]
    refine Mir.use (e := e) ?_ h
    refine Mir.block ?_
    refine Mir.seqK ?_
    refine Mir.region fun e h => ?_
    simp only [↓reduceIte, reduceCtorEq, nA, nS, nM, nE, nL, nT, nB, iT, iN, iE, and_self, SR, SV, encApiWord]
    refine Mir.use (e := e) ?_ h
    refine Mir.cond rfl (fun hb23 => ?_) (fun hb23 => ?_)
    ·refine Mir.skip fun e h => ?_
     cases h
     simp only [↓reduceIte, reduceCtorEq, nA, nE, nL, and_self, and_true, true_and, SL, encApiWord, Tryd.results73, ag_24, sz_24]
    ·refine Mir.seqK ?_
     refine Mir.region fun e h => ?_
     simp only [↓reduceIte, reduceCtorEq, nA, nS, nM, nE, nL, nT, nB, iT, iN, iE, and_self, SR, SV, fld_65_1, sz_2, ag_2, encApiWord]
     refine Mir.use (e := e) ?_ h
     refine Mir.cond rfl (fun hb24 => ?_) (fun hb24 => ?_)
     ·refine Mir.region fun e h => ?_
      simp only [↓reduceIte, reduceCtorEq, nA, nS, nM, nE, nL, nT, nB, iT, iN, iE, and_self, SR, SV, fld_145_1, sz_139, ag_139, sz_2, encApiWord]
      cases h
      simp only [↓reduceIte, reduceCtorEq, nA, nE, nL, and_self, and_true, true_and, SL, encApiWord, Tryd.results73, ag_24, sz_24]
     ·refine Mir.region fun e h => ?_
      simp only [↓reduceIte, reduceCtorEq, nA, nS, nM, nE, nL, nT, nB, iT, iN, iE, and_self, SR, SV, fld_145_1, sz_139, ag_139, ag_2, sz_2, encApiWord]
      cases h
      simp only [↓reduceIte, reduceCtorEq, nA, nE, nL, and_self, and_true, true_and, SL, encApiWord, Tryd.results73, ag_24, sz_24]
   ·intro v112
    refine Mir.toK ?_
    refine Mir.region fun e h => ?_
    simp only [↓reduceIte, reduceCtorEq, nA, nS, nM, nE, nL, nT, nB, iT, iN, iE, and_self, SR, SV, (nr rfl : IntKind.i64.wrap (0 + 1) = 1), encApiWord]
    refine Mir.useN (e := e) ?_ h
    refine Mir.seqK ?_
    refine Mir.region fun e h => ?_
    simp only [↓reduceIte, reduceCtorEq, nA, nS, nM, nE, nL, nT, nB, iT, iN, iE, and_self, SR, SV, encApiWord]
    refine Mir.use (e := e) ?_ h
    refine Mir.seqK ?_
    refine Mir.condT rfl ?_
    refine Mir.skip ?_
    refine Mir.toK ?_
    refine Mir.seqK ?_
    refine Mir.joinO (fun v115 : Int => [U, U, U, .ptr 0 0, .ptr 1 0, .ptr 2 0, .ptr 3 0, U, U, U, U, U, U, U, U, U, U, .sl 4 0 3 3, .d (.int .i64 3), .d (.int .i64 1), U, U, U, U, U, U, U, U, U, U, U, U, U, U, U, U, U, U, U, U, U, U, U, U, U, U, U, U, U, U]) (fun v115 : Int => ⟨[[.d (.int .i64 a0.Motion), .d (.int .i64 a0.Distance), .d (.int .i64 a0.Work), .d (.int .i64 a0.Length), .d (.int .i64 a0.Return), .d (.int .i64 a0.Feed), .d (.int .i64 a0.Tool), .d (.int .i64 a0.Offset)], [.d (.bool a1.Skip), .d (.list (List.map encApiWord a1.Words)), .d (.str a1.Comment)], [.d (.int .i64 v112), .d (.int .i64 v115), .d (.int .i64 a2.Z)], [.d (.int .i64 0), .d (.int .i64 0), .d (.int .i64 0)], [.d (.int .u8 88), .ptr 2 0, .d (.int .u8 89), .ptr 2 1, .d (.int .u8 90), .ptr 2 2]], []⟩) (fun _ => rfl) ?_ ?_
    ·refine Mir.block ?_
     refine Mir.seqK ?_
     refine Mir.region fun e h => ?_
     simp only [↓reduceIte, reduceCtorEq, nA, nS, nM, nE, nL, nT, nB, iT, iN, iE, and_self, SR, SV, und_146, sz_145, ag_145, zero_145, encApiWord]
     refine Mir.use (e := e) ?_ h
     refine Mir.seqK ?_
     refine Mir.bind fun y116 hy28 => ?_
     refine Mir.region fun e h => ?_
     simp only [↓reduceIte, reduceCtorEq, nA, nS, nM, nE, nL, nT, nB, iT, iN, iE, and_self, SR, SV, ag_42, sz_42, fld_145_0, sz_5, ag_5, encApiWord]
     refine SpecS.by (bk_Find_spec hy28) (by simp only [↓reduceIte, reduceCtorEq, nA, nE, nL, and_self, and_true, true_and, SL, encApiWord]) ?_
     simp only [↓reduceIte, reduceCtorEq, nA, nS, nM, nE, nL, nT, nB, iT, iN, iE, and_self, SR, SV, encApiWord]
     refine Mir.use (e := e) ?_ h
     refine Mir.block ?_
     refine Mir.seqK ?_
     refine Mir.region fun e h => ?_
     simp only [↓reduceIte, reduceCtorEq, nA, nS, nM, nE, nL, nT, nB, iT, iN, iE, and_self, SR, SV, encApiWord]
     refine Mir.use (e := e) ?_ h
     refine Mir.cond rfl (fun hb29 => ?_) (fun hb29 => ?_)
     ·refine Mir.skip fun e h => ?_
      cases h
      simp only [↓reduceIte, reduceCtorEq, nA, nE, nL, and_self, and_true, true_and, SL, encApiWord, Tryd.results73, ag_24, sz_24]
     ·refine Mir.seqK ?_
      refine Mir.region fun e h => ?_
      simp only [↓reduceIte, reduceCtorEq, nA, nS, nM, nE, nL, nT, nB, iT, iN, iE, and_self, SR, SV, fld_65_1, sz_2, ag_2, encApiWord]
      refine Mir.use (e := e) ?_ h
      refine Mir.cond rfl (fun hb30 => ?_) (fun hb30 => ?_)
      ·refine Mir.region fun e h => ?_
       simp only [↓reduceIte, reduceCtorEq, nA, nS, nM, nE, nL, nT, nB, iT, iN, iE, and_self, SR, SV, fld_145_1, sz_139, ag_139, sz_2, encApiWord]
       cases h
       simp only [↓reduceIte, reduceCtorEq, nA, nE, nL, and_self, and_true, true_and, SL, encApiWord, Tryd.results73, ag_24, sz_24]
      ·refine Mir.region fun e h => ?_
       simp only [↓reduceIte, reduceCtorEq, nA, nS, nM, nE, nL, nT, nB, iT, iN, iE, and_self, SR, SV, fld_145_1, sz_139, ag_139, ag_2, sz_2, encApiWord]
       cases h
       simp only [↓reduceIte, reduceCtorEq, nA, nE, nL, and_self, and_true, true_and, SL, encApiWord, Tryd.results73, ag_24, sz_24]
    ·intro v115
     refine Mir.toK ?_
     refine Mir.region fun e h => ?_
     simp only [↓reduceIte, reduceCtorEq, nA, nS, nM, nE, nL, nT, nB, iT, iN, iE, and_self, SR, SV, (nr rfl : IntKind.i64.wrap (1 + 1) = 2), encApiWord]
     refine Mir.useN (e := e) ?_ h
     refine Mir.seqK ?_
     refine Mir.region fun e h => ?_
     simp only [↓reduceIte, reduceCtorEq, nA, nS, nM, nE, nL, nT, nB, iT, iN, iE, and_self, SR, SV, encApiWord]
     refine Mir.use (e := e) ?_ h
     refine Mir.seqK ?_
     refine Mir.condT rfl ?_
     refine Mir.skip ?_
     refine Mir.toK ?_
     refine Mir.seqK ?_
     refine Mir.joinO (fun v118 : Int => [U, U, U, .ptr 0 0, .ptr 1 0, .ptr 2 0, .ptr 3 0, U, U, U, U, U, U, U, U, U, U, .sl 4 0 3 3, .d (.int .i64 3), .d (.int .i64 2), U, U, U, U, U, U, U, U, U, U, U, U, U, U, U, U, U, U, U, U, U, U, U, U, U, U, U, U, U, U]) (fun v118 : Int => ⟨[[.d (.int .i64 a0.Motion), .d (.int .i64 a0.Distance), .d (.int .i64 a0.Work), .d (.int .i64 a0.Length), .d (.int .i64 a0.Return), .d (.int .i64 a0.Feed), .d (.int .i64 a0.Tool), .d (.int .i64 a0.Offset)], [.d (.bool a1.Skip), .d (.list (List.map encApiWord a1.Words)), .d (.str a1.Comment)], [.d (.int .i64 v112), .d (.int .i64 v115), .d (.int .i64 v118)], [.d (.int .i64 0), .d (.int .i64 0), .d (.int .i64 0)], [.d (.int .u8 88), .ptr 2 0, .d (.int .u8 89), .ptr 2 1, .d (.int .u8 90), .ptr 2 2]], []⟩) (fun _ => rfl) ?_ ?_
     ·refine Mir.block ?_
      refine Mir.seqK ?_
      refine Mir.region fun e h => ?_
      simp only [↓reduceIte, reduceCtorEq, nA, nS, nM, nE, nL, nT, nB, iT, iN, iE, and_self, SR, SV, und_146, sz_145, ag_145, zero_145, encApiWord]
      refine Mir.use (e := e) ?_ h
      refine Mir.seqK ?_
      refine Mir.bind fun y119 hy34 => ?_
      refine Mir.region fun e h => ?_
      simp only [↓reduceIte, reduceCtorEq, nA, nS, nM, nE, nL, nT, nB, iT, iN, iE, and_self, SR, SV, ag_42, sz_42, fld_145_0, sz_5, ag_5, encApiWord]
      refine SpecS.by (bk_Find_spec hy34) (by simp only [↓reduceIte, reduceCtorEq, nA, nE, nL, and_self, and_true, true_and, SL, encApiWord]) ?_
      simp only [↓reduceIte, reduceCtorEq, nA, nS, nM, nE, nL, nT, nB, iT, iN, iE, and_self, SR, SV, encApiWord]
      refine Mir.use (e := e) ?_ h
      refine Mir.block ?_
      refine Mir.seqK ?_
      refine Mir.region fun e h => ?_
      simp only [↓reduceIte, reduceCtorEq, nA, nS, nM, nE, nL, nT, nB, iT, iN, iE, and_self, SR, SV, encApiWord]
      refine Mir.use (e := e) ?_ h
      refine Mir.cond rfl (fun hb35 => ?_) (fun hb35 => ?_)
      ·refine Mir.skip fun e h => ?_
       cases h
       simp only [↓reduceIte, reduceCtorEq, nA, nE, nL, and_self, and_true, true_and, SL, encApiWord, Tryd.results73, ag_24, sz_24]
      ·refine Mir.seqK ?_
       refine Mir.region fun e h => ?_
       simp only [↓reduceIte, reduceCtorEq, nA, nS, nM, nE, nL, nT, nB, iT, iN, iE, and_self, SR, SV, fld_65_1, sz_2, ag_2, encApiWord]
       refine Mir.use (e := e) ?_ h
       refine Mir.cond rfl (fun hb36 => ?_) (fun hb36 => ?_)
       ·refine Mir.region fun e h => ?_
        simp only [↓reduceIte, reduceCtorEq, nA, nS, nM, nE, nL, nT, nB, iT, iN, iE, and_self, SR, SV, fld_145_1, sz_139, ag_139, sz_2, encApiWord]
        cases h
        simp only [↓reduceIte, reduceCtorEq, nA, nE, nL, and_self, and_true, true_and, SL, encApiWord, Tryd.results73, ag_24, sz_24]
       ·refine Mir.region fun e h => ?_
        simp only [↓reduceIte, reduceCtorEq, nA, nS, nM, nE, nL, nT, nB, iT, iN, iE, and_self, SR, SV, fld_145_1, sz_139, ag_139, ag_2, sz_2, encApiWord]
        cases h
        simp only [↓reduceIte, reduceCtorEq, nA, nE, nL, and_self, and_true, true_and, SL, encApiWord, Tryd.results73, ag_24, sz_24]
     ·intro v118
      refine Mir.toK ?_
      refine Mir.region fun e h => ?_
      simp only [↓reduceIte, reduceCtorEq, nA, nS, nM, nE, nL, nT, nB, iT, iN, iE, and_self, SR, SV, (nr rfl : IntKind.i64.wrap (2 + 1) = 3), encApiWord]
      refine Mir.useN (e := e) ?_ h
      refine Mir.seqK ?_
      refine Mir.region fun e h => ?_
      simp only [↓reduceIte, reduceCtorEq, nA, nS, nM, nE, nL, nT, nB, iT, iN, iE, and_self, SR, SV, encApiWord]
      refine Mir.use (e := e) ?_ h
      refine Mir.seqK ?_
      refine Mir.condF rfl ?_
      refine Mir.exit fun e h => ?_
      cases h
      simp only [↓reduceIte, reduceCtorEq, nA, nE, nL, and_self, and_true, true_and, SL, encApiWord, Tryd.results73, ag_24, sz_24]
  ·intro v110
   refine Mir.toK ?_
   refine Mir.seqK ?_
   refine Mir.region fun e h => ?_
   simp only [↓reduceIte, reduceCtorEq, nA, nS, nM, nE, nL, nT, nB, iT, iN, iE, and_self, SR, SV, ag_24, sz_24, encApiWord]
   refine Mir.use (e := e) ?_ h
   refine Mir.ret fun e h => ?_
   cases h
   simp only [↓reduceIte, reduceCtorEq, nA, nE, nL, and_self, and_true, true_and, SL, encApiWord, Tryd.results73, ag_24, sz_24]

def cy_Read_c1 (a0 : Int) (a1 : Int) (a2 : ApiBlock) : Option Int :=
  bindO (bk_Find a2 a0) fun (y101 : Int × Bool) =>
  if y101.2 = true then
    some y101.1
  else
    some a1
theorem cy_Read_c1_spec {a0 : Int} {a1 : Int} {a2 : ApiBlock} {y : Int} (h : cy_Read_c1 a0 a1 a2 = some y) : Spec gP 96 [.d (.int .u8 a0), .d (.int .i64 a1), .iptr [.bool a2.Skip, .list (List.map encApiWord a2.Words), .str a2.Comment] 0] (.d (.int .i64 y)) := by
  refine spec_mir Tryd.func96 rfl (by kernel_rfl) (by kernel_rfl) (fun y : Int => .d (.int .i64 y)) ?_ h
  unfold cy_Read_c1
  simp only [List.replicate, List.length, nS, nA, Tryd.ntmps96, SV]
  refine Mir.seqK ?_
  refine Mir.region fun e h => ?_
  simp only [↓reduceIte, reduceCtorEq, nA, nS, nM, nE, nL, nT, nB, iT, iN, iE, and_self, SR, SV, encApiWord]
  refine Mir.use (e := e) ?_ h
  refine Mir.seqK ?_
  refine Mir.seqK ?_
  refine Mir.bind fun y101 hy1 => ?_
  refine Mir.region fun e h => ?_
  simp only [↓reduceIte, reduceCtorEq, nA, nS, nM, nE, nL, nT, nB, iT, iN, iE, and_self, SR, SV, ag_42, sz_42, encApiWord]
  refine SpecS.by (bk_Find_spec hy1) (by simp only [↓reduceIte, reduceCtorEq, nA, nE, nL, and_self, and_true, true_and, SL, encApiWord]) ?_
  simp only [↓reduceIte, reduceCtorEq, nA, nS, nM, nE, nL, nT, nB, iT, iN, iE, and_self, SR, SV, encApiWord]
  refine Mir.use (e := e) ?_ h
  refine Mir.seqK ?_
  refine Mir.region fun e h => ?_
  simp only [↓reduceIte, reduceCtorEq, nA, nS, nM, nE, nL, nT, nB, iT, iN, iE, and_self, SR, SV, encApiWord]
  refine Mir.use (e := e) ?_ h
  refine Mir.cond rfl (fun hb3 => ?_) (fun hb3 => ?_)
  ·refine Mir.seqK ?_
   refine Mir.region fun e h => ?_
   simp only [↓reduceIte, reduceCtorEq, nA, nS, nM, nE, nL, nT, nB, iT, iN, iE, and_self, SR, SV, encApiWord]
   refine Mir.use (e := e) ?_ h
   refine Mir.ret fun e h => ?_
   cases h
   simp only [↓reduceIte, reduceCtorEq, nA, nE, nL, and_self, and_true, true_and, SL, encApiWord, Tryd.results96]
  ·refine Mir.skip ?_
   refine Mir.toK ?_
   refine Mir.seqK ?_
   refine Mir.region fun e h => ?_
   simp only [↓reduceIte, reduceCtorEq, nA, nS, nM, nE, nL, nT, nB, iT, iN, iE, and_self, SR, SV, encApiWord]
   refine Mir.use (e := e) ?_ h
   refine Mir.ret fun e h => ?_
   cases h
   simp only [↓reduceIte, reduceCtorEq, nA, nE, nL, and_self, and_true, true_and, SL, encApiWord, Tryd.results96]

def cy_far (a0 : Int) : Option Bool :=
  some ((decide (a0 > 10000000)) || (decide (a0 < (-10000000))))
theorem cy_far_spec {a0 : Int} {y : Bool} (h : cy_far a0 = some y) : Spec gP 99 [.d (.int .i64 a0)] (.d (.bool y)) := by
  refine spec_mir Tryd.func99 rfl (by kernel_rfl) (by kernel_rfl) (fun y : Bool => .d (.bool y)) ?_ h
  unfold cy_far
  simp only [List.replicate, List.length, nS, nA, Tryd.ntmps99, SV]
  refine Mir.seqK ?_
  refine Mir.region fun e h => ?_
  simp only [↓reduceIte, reduceCtorEq, nA, nS, nM, nE, nL, nT, nB, iT, iN, iE, and_self, SR, SV]
  refine Mir.use (e := e) ?_ h
  refine Mir.seqK ?_
  refine Mir.joinV [U, U, .d (.bool ((decide (a0 > 10000000)) || (decide (a0 < (-10000000))))), U, U, U, U, U, U] ⟨[], []⟩ rfl ?_ ?_
  ·refine SWs.region ?_
   rcases Bool.eq_false_or_eq_true (decide (a0 > 10000000)) with hb1 | hb1
   ·simp only [↓reduceIte, reduceCtorEq, nA, nS, nM, nE, nL, nT, nB, iT, iN, iE, and_self, SR, SV, SL, Bool.true_and, Bool.false_and, Bool.true_or, Bool.false_or, Bool.or_true, Bool.or_false, Bool.and_true, Bool.and_false, Bool.not_true, Bool.not_false, hb1]
   ·simp only [↓reduceIte, reduceCtorEq, nA, nS, nM, nE, nL, nT, nB, iT, iN, iE, and_self, SR, SV, SL, Bool.true_and, Bool.false_and, Bool.true_or, Bool.false_or, Bool.or_true, Bool.or_false, Bool.and_true, Bool.and_false, Bool.not_true, Bool.not_false, hb1]
  ·refine Mir.toK ?_
   refine Mir.ret fun e h => ?_
   cases h
   simp only [↓reduceIte, reduceCtorEq, nA, nE, nL, and_self, and_true, true_and, SL, Tryd.results99]

def cy_Valid (a0 : CycleCycle) : Option Int :=
  if (if (a0.Code == 83000) = true then (decide (a0.Z ≥ a0.R)) || ((decide (a0.R > a0.Initial)) || ((decide (a0.Rate < 1)) || ((decide (a0.Rate > 1000000000000)) || (decide (a0.Q ≤ 0))))) else if (a0.Code != 81000) = true then (a0.Code != 82000) || ((decide (a0.Z ≥ a0.R)) || ((decide (a0.R > a0.Initial)) || ((decide (a0.Rate < 1)) || (decide (a0.Rate > 1000000000000))))) else (decide (a0.Z ≥ a0.R)) || ((decide (a0.R > a0.Initial)) || ((decide (a0.Rate < 1)) || (decide (a0.Rate > 1000000000000))))) = true then
    some 1
  else
    bindO (bindO (cy_far a0.R) fun (y101 : Bool) =>
        if y101 = true then
          some true
        else
          bindO (cy_far a0.Z) fun (y102 : Bool) =>
          if y102 = true then
            some true
          else
            bindO (cy_far a0.Initial) fun (y103 : Bool) =>
            if y103 = true then
              some true
            else
              if (a0.Code == 83000) = true then
                bindO (cy_far a0.Q) fun (y104 : Bool) =>
                some y104
              else
                some false) fun (v105 : Bool) =>
    if v105 = true then
      some 11
    else
      bindO (if (a0.Code == 83000) = true then
            guardO (!(a0.Q == 0)) (
            some (decide ((IntKind.i64.wrap (Int.tdiv (IntKind.i64.wrap ((IntKind.i64.wrap (a0.R - a0.Z)) - 1)) a0.Q)) > 999)))
          else
            some false) fun (v106 : Bool) =>
      if v106 = true then
        some 3
      else
        some 0
set_option maxHeartbeats 8000000 in
theorem cy_Valid_spec {a0 : CycleCycle} {y : Int} (h : cy_Valid a0 = some y) : Spec gP 97 [.agg [.d (.int .i64 a0.Code), .d (.int .i64 a0.R), .d (.int .i64 a0.Z), .d (.int .i64 a0.Q), .d (.int .i64 a0.Rate), .d (.int .i64 a0.Initial), .d (.bool a0.High)]] (.d (.int .i64 y)) := by
  refine spec_mir Tryd.func97 rfl (by kernel_rfl) (by kernel_rfl) (fun y : Int => .d (.int .i64 y)) ?_ h
  unfold cy_Valid
  simp only [List.replicate, List.length, nS, nA, Tryd.ntmps97, SV]
  refine Mir.seqK ?_
  refine Mir.region fun e h => ?_
  simp only [↓reduceIte, reduceCtorEq, nA, nS, nM, nE, nL, nT, nB, iT, iN, iE, and_self, SR, SV]
  refine Mir.use (e := e) ?_ h
  refine Mir.seqK ?_
  refine Mir.region fun e h => ?_
  simp only [↓reduceIte, reduceCtorEq, nA, nS, nM, nE, nL, nT, nB, iT, iN, iE, and_self, SR, SV, fld_68_0, sz_2, ag_2]
  refine Mir.use (e := e) ?_ h
  refine Mir.seqK ?_
  refine Mir.seqK ?_
  refine Mir.joinV [U, .ptr 0 0, U, .d (.bool (a0.Code == 83000)), U, U, U, U, U, U, U, U, U, U, U, U, U, U, U, U, U, U, U, U, U, U, U, U, U, U, U, U, U, U, U, U, U, U, U, U, U, U, U, U, U, U, U, U, U, U, .d (.bool (if (a0.Code == 83000) = true then (decide (a0.Z ≥ a0.R)) || ((decide (a0.R > a0.Initial)) || ((decide (a0.Rate < 1)) || ((decide (a0.Rate > 1000000000000)) || (decide (a0.Q ≤ 0))))) else if (a0.Code != 81000) = true then (a0.Code != 82000) || ((decide (a0.Z ≥ a0.R)) || ((decide (a0.R > a0.Initial)) || ((decide (a0.Rate < 1)) || (decide (a0.Rate > 1000000000000))))) else (decide (a0.Z ≥ a0.R)) || ((decide (a0.R > a0.Initial)) || ((decide (a0.Rate < 1)) || (decide (a0.Rate > 1000000000000)))))), U, U, U, U, U, U, U, U, U, U, U, U, U, U, U, U, U, U, U, U, U, U, U, U, U, U, U, U, U, U, U, U, U, U] ⟨[[.d (.int .i64 a0.Code), .d (.int .i64 a0.R), .d (.int .i64 a0.Z), .d (.int .i64 a0.Q), .d (.int .i64 a0.Rate), .d (.int .i64 a0.Initial), .d (.bool a0.High)]], []⟩ rfl ?_ ?_
  ·refine SWs.region ?_
   rcases Bool.eq_false_or_eq_true (a0.Code == 83000) with hb1 | hb1
   ·rcases Bool.eq_false_or_eq_true (decide (a0.Z ≥ a0.R)) with hb2 | hb2
    ·simp only [↓reduceIte, reduceCtorEq, nA, nS, nM, nE, nL, nT, nB, iT, iN, iE, and_self, SR, SV, SL, Bool.true_and, Bool.false_and, Bool.true_or, Bool.false_or, Bool.or_true, Bool.or_false, Bool.and_true, Bool.and_false, Bool.not_true, Bool.not_false, fld_68_2, sz_2, ag_2, fld_68_1, hb1, hb2]
    ·rcases Bool.eq_false_or_eq_true (decide (a0.R > a0.Initial)) with hb3 | hb3
     ·simp only [↓reduceIte, reduceCtorEq, nA, nS, nM, nE, nL, nT, nB, iT, iN, iE, and_self, SR, SV, SL, Bool.true_and, Bool.false_and, Bool.true_or, Bool.false_or, Bool.or_true, Bool.or_false, Bool.and_true, Bool.and_false, Bool.not_true, Bool.not_false, fld_68_2, sz_2, ag_2, fld_68_1, fld_68_5, hb1, hb2, hb3]
     ·rcases Bool.eq_false_or_eq_true (decide (a0.Rate < 1)) with hb4 | hb4
      ·simp only [↓reduceIte, reduceCtorEq, nA, nS, nM, nE, nL, nT, nB, iT, iN, iE, and_self, SR, SV, SL, Bool.true_and, Bool.false_and, Bool.true_or, Bool.false_or, Bool.or_true, Bool.or_false, Bool.and_true, Bool.and_false, Bool.not_true, Bool.not_false, fld_68_2, sz_2, ag_2, fld_68_1, fld_68_5, fld_68_4, hb1, hb2, hb3, hb4]
      ·rcases Bool.eq_false_or_eq_true (decide (a0.Rate > 1000000000000)) with hb5 | hb5
       ·simp only [↓reduceIte, reduceCtorEq, nA, nS, nM, nE, nL, nT, nB, iT, iN, iE, and_self, SR, SV, SL, Bool.true_and, Bool.false_and, Bool.true_or, Bool.false_or, Bool.or_true, Bool.or_false, Bool.and_true, Bool.and_false, Bool.not_true, Bool.not_false, fld_68_2, sz_2, ag_2, fld_68_1, fld_68_5, fld_68_4, hb1, hb2, hb3, hb4, hb5]
       ·simp only [↓reduceIte, reduceCtorEq, nA, nS, nM, nE, nL, nT, nB, iT, iN, iE, and_self, SR, SV, SL, Bool.true_and, Bool.false_and, Bool.true_or, Bool.false_or, Bool.or_true, Bool.or_false, Bool.and_true, Bool.and_false, Bool.not_true, Bool.not_false, fld_68_2, sz_2, ag_2, fld_68_1, fld_68_5, fld_68_4, fld_68_3, hb1, hb2, hb3, hb4, hb5]
   ·rcases Bool.eq_false_or_eq_true (a0.Code != 81000) with hb6 | hb6
    ·rcases Bool.eq_false_or_eq_true (a0.Code != 82000) with hb7 | hb7
     ·simp only [↓reduceIte, reduceCtorEq, nA, nS, nM, nE, nL, nT, nB, iT, iN, iE, and_self, SR, SV, SL, Bool.true_and, Bool.false_and, Bool.true_or, Bool.false_or, Bool.or_true, Bool.or_false, Bool.and_true, Bool.and_false, Bool.not_true, Bool.not_false, fld_68_0, sz_2, ag_2, hb1, hb6, hb7]
     ·rcases Bool.eq_false_or_eq_true (decide (a0.Z ≥ a0.R)) with hb8 | hb8
      ·simp only [↓reduceIte, reduceCtorEq, nA, nS, nM, nE, nL, nT, nB, iT, iN, iE, and_self, SR, SV, SL, Bool.true_and, Bool.false_and, Bool.true_or, Bool.false_or, Bool.or_true, Bool.or_false, Bool.and_true, Bool.and_false, Bool.not_true, Bool.not_false, fld_68_0, sz_2, ag_2, fld_68_2, fld_68_1, hb1, hb6, hb7, hb8]
      ·rcases Bool.eq_false_or_eq_true (decide (a0.R > a0.Initial)) with hb9 | hb9
       ·simp only [↓reduceIte, reduceCtorEq, nA, nS, nM, nE, nL, nT, nB, iT, iN, iE, and_self, SR, SV, SL, Bool.true_and, Bool.false_and, Bool.true_or, Bool.false_or, Bool.or_true, Bool.or_false, Bool.and_true, Bool.and_false, Bool.not_true, Bool.not_false, fld_68_0, sz_2, ag_2, fld_68_2, fld_68_1, fld_68_5, hb1, hb6, hb7, hb8, hb9]
       ·rcases Bool.eq_false_or_eq_true (decide (a0.Rate < 1)) with hb10 | hb10
        ·simp only [↓reduceIte, reduceCtorEq, nA, nS, nM, nE, nL, nT, nB, iT, iN, iE, and_self, SR, SV, SL, Bool.true_and, Bool.false_and, Bool.true_or, Bool.false_or, Bool.or_true, Bool.or_false, Bool.and_true, Bool.and_false, Bool.not_true, Bool.not_false, fld_68_0, sz_2, ag_2, fld_68_2, fld_68_1, fld_68_5, fld_68_4, hb1, hb6, hb7, hb8, hb9, hb10]
        ·rcases Bool.eq_false_or_eq_true (decide (a0.Rate > 1000000000000)) with hb11 | hb11
         ·simp only [↓reduceIte, reduceCtorEq, nA, nS, nM, nE, nL, nT, nB, iT, iN, iE, and_self, SR, SV, SL, Bool.true_and, Bool.false_and, Bool.true_or, Bool.false_or, Bool.or_true, Bool.or_false, Bool.and_true, Bool.and_false, Bool.not_true, Bool.not_false, fld_68_0, sz_2, ag_2, fld_68_2, fld_68_1, fld_68_5, fld_68_4, hb1, hb6, hb7, hb8, hb9, hb10, hb11]
         ·simp only [↓reduceIte, reduceCtorEq, nA, nS, nM, nE, nL, nT, nB, iT, iN, iE, and_self, SR, SV, SL, Bool.true_and, Bool.false_and, Bool.true_or, Bool.false_or, Bool.or_true, Bool.or_false, Bool.and_true, Bool.and_false, Bool.not_true, Bool.not_false, fld_68_0, sz_2, ag_2, fld_68_2, fld_68_1, fld_68_5, fld_68_4, hb1, hb6, hb7, hb8, hb9, hb10, hb11]
    ·rcases Bool.eq_false_or_eq_true (decide (a0.Z ≥ a0.R)) with hb12 | hb12
     ·simp only [↓reduceIte, reduceCtorEq, nA, nS, nM, nE, nL, nT, nB, iT, iN, iE, and_self, SR, SV, SL, Bool.true_and, Bool.false_and, Bool.true_or, Bool.false_or, Bool.or_true, Bool.or_false, Bool.and_true, Bool.and_false, Bool.not_true, Bool.not_false, fld_68_0, sz_2, ag_2, fld_68_2, fld_68_1, hb1, hb6, hb12]
     ·rcases Bool.eq_false_or_eq_true (decide (a0.R > a0.Initial)) with hb13 | hb13
      ·simp only [↓reduceIte, reduceCtorEq, nA, nS, nM, nE, nL, nT, nB, iT, iN, iE, and_self, SR, SV, SL, Bool.true_and, Bool.false_and, Bool.true_or, Bool.false_or, Bool.or_true, Bool.or_false, Bool.and_true, Bool.and_false, Bool.not_true, Bool.not_false, fld_68_0, sz_2, ag_2, fld_68_2, fld_68_1, fld_68_5, hb1, hb6, hb12, hb13]
      ·rcases Bool.eq_false_or_eq_true (decide (a0.Rate < 1)) with hb14 | hb14
       ·simp only [↓reduceIte, reduceCtorEq, nA, nS, nM, nE, nL, nT, nB, iT, iN, iE, and_self, SR, SV, SL, Bool.true_and, Bool.false_and, Bool.true_or, Bool.false_or, Bool.or_true, Bool.or_false, Bool.and_true, Bool.and_false, Bool.not_true, Bool.not_false, fld_68_0, sz_2, ag_2, fld_68_2, fld_68_1, fld_68_5, fld_68_4, hb1, hb6, hb12, hb13, hb14]
       ·rcases Bool.eq_false_or_eq_true (decide (a0.Rate > 1000000000000)) with hb15 | hb15
        ·simp only [↓reduceIte, reduceCtorEq, nA, nS, nM, nE, nL, nT, nB, iT, iN, iE, and_self, SR, SV, SL, Bool.true_and, Bool.false_and, Bool.true_or, Bool.false_or, Bool.or_true, Bool.or_false, Bool.and_true, Bool.and_false, Bool.not_true, Bool.not_false, fld_68_0, sz_2, ag_2, fld_68_2, fld_68_1, fld_68_5, fld_68_4, hb1, hb6, hb12, hb13, hb14, hb15]
        ·simp only [↓reduceIte, reduceCtorEq, nA, nS, nM, nE, nL, nT, nB, iT, iN, iE, and_self, SR, SV, SL, Bool.true_and, Bool.false_and, Bool.true_or, Bool.false_or, Bool.or_true, Bool.or_false, Bool.and_true, Bool.and_false, Bool.not_true, Bool.not_false, fld_68_0, sz_2, ag_2, fld_68_2, fld_68_1, fld_68_5, fld_68_4, hb1, hb6, hb12, hb13, hb14, hb15]
  ·refine Mir.toK ?_
   refine Mir.cond rfl (fun hb17 => ?_) (fun hb17 => ?_)
   ·refine Mir.seqK ?_
    refine Mir.region fun e h => ?_
    simp only [↓reduceIte, reduceCtorEq, nA, nS, nM, nE, nL, nT, nB, iT, iN, iE, and_self, SR, SV]
    refine Mir.use (e := e) ?_ h
    refine Mir.ret fun e h => ?_
    cases h
    simp only [↓reduceIte, reduceCtorEq, nA, nE, nL, and_self, and_true, true_and, SL, Tryd.results97]
   ·refine Mir.skip ?_
    refine Mir.toK ?_
    refine Mir.seqK ?_
    refine Mir.seqK ?_
    refine Mir.joinO (fun v105 : Bool => [U, .ptr 0 0, U, .d (.bool (a0.Code == 83000)), U, U, U, U, U, U, U, U, U, U, U, U, U, U, U, U, U, U, U, U, U, U, U, U, U, U, U, U, U, U, U, U, U, U, U, U, U, U, U, U, U, U, U, U, U, U, U, U, U, U, U, U, U, U, U, U, U, U, U, U, U, U, U, U, U, U, U, .d (.bool v105), U, U, U, U, U, U, U, U, U, U, U, U, U]) (fun v105 : Bool => ⟨[[.d (.int .i64 a0.Code), .d (.int .i64 a0.R), .d (.int .i64 a0.Z), .d (.int .i64 a0.Q), .d (.int .i64 a0.Rate), .d (.int .i64 a0.Initial), .d (.bool a0.High)]], []⟩) (fun _ => rfl) ?_ ?_
    ·refine Mir.bind fun y101 hy18 => ?_
     refine Mir.ite (fun hb19 => ?_) (fun hb19 => ?_)
     ·refine Mir.region fun e h => ?_
      simp only [↓reduceIte, reduceCtorEq, nA, nS, nM, nE, nL, nT, nB, iT, iN, iE, and_self, SR, SV, fld_68_1, sz_2, ag_2, hb19]
      refine SpecS.by (cy_far_spec hy18) (by simp only [↓reduceIte, reduceCtorEq, nA, nE, nL, and_self, and_true, true_and, SL, hb19]) ?_
      simp only [↓reduceIte, reduceCtorEq, nA, nS, nM, nE, nL, nT, nB, iT, iN, iE, and_self, SR, SV, hb19]
      cases h
      simp only [↓reduceIte, reduceCtorEq, nA, nE, nL, and_self, and_true, true_and, SL, hb19]
     ·refine Mir.bind fun y102 hy20 => ?_
      refine Mir.ite (fun hb21 => ?_) (fun hb21 => ?_)
      ·refine Mir.region fun e h => ?_
       simp only [↓reduceIte, reduceCtorEq, nA, nS, nM, nE, nL, nT, nB, iT, iN, iE, and_self, SR, SV, fld_68_1, sz_2, ag_2, hb19, hb21]
       refine SpecS.by (cy_far_spec hy18) (by simp only [↓reduceIte, reduceCtorEq, nA, nE, nL, and_self, and_true, true_and, SL, hb19, hb21]) ?_
       simp only [↓reduceIte, reduceCtorEq, nA, nS, nM, nE, nL, nT, nB, iT, iN, iE, and_self, SR, SV, fld_68_2, sz_2, ag_2, hb19, hb21]
       refine SpecS.by (cy_far_spec hy20) (by simp only [↓reduceIte, reduceCtorEq, nA, nE, nL, and_self, and_true, true_and, SL, hb19, hb21]) ?_
       simp only [↓reduceIte, reduceCtorEq, nA, nS, nM, nE, nL, nT, nB, iT, iN, iE, and_self, SR, SV, hb19, hb21]
       cases h
       simp only [↓reduceIte, reduceCtorEq, nA, nE, nL, and_self, and_true, true_and, SL, hb19, hb21]
      ·refine Mir.bind fun y103 hy22 => ?_
       refine Mir.ite (fun hb23 => ?_) (fun hb23 => ?_)
       ·refine Mir.region fun e h => ?_
        simp only [↓reduceIte, reduceCtorEq, nA, nS, nM, nE, nL, nT, nB, iT, iN, iE, and_self, SR, SV, fld_68_1, sz_2, ag_2, hb19, hb21, hb23]
        refine SpecS.by (cy_far_spec hy18) (by simp only [↓reduceIte, reduceCtorEq, nA, nE, nL, and_self, and_true, true_and, SL, hb19, hb21, hb23]) ?_
        simp only [↓reduceIte, reduceCtorEq, nA, nS, nM, nE, nL, nT, nB, iT, iN, iE, and_self, SR, SV, fld_68_2, sz_2, ag_2, hb19, hb21, hb23]
        refine SpecS.by (cy_far_spec hy20) (by simp only [↓reduceIte, reduceCtorEq, nA, nE, nL, and_self, and_true, true_and, SL, hb19, hb21, hb23]) ?_
        simp only [↓reduceIte, reduceCtorEq, nA, nS, nM, nE, nL, nT, nB, iT, iN, iE, and_self, SR, SV, fld_68_5, sz_2, ag_2, hb19, hb21, hb23]
        refine SpecS.by (cy_far_spec hy22) (by simp only [↓reduceIte, reduceCtorEq, nA, nE, nL, and_self, and_true, true_and, SL, hb19, hb21, hb23]) ?_
        simp only [↓reduceIte, reduceCtorEq, nA, nS, nM, nE, nL, nT, nB, iT, iN, iE, and_self, SR, SV, hb19, hb21, hb23]
        cases h
        simp only [↓reduceIte, reduceCtorEq, nA, nE, nL, and_self, and_true, true_and, SL, hb19, hb21, hb23]
       ·refine Mir.ite (fun hb24 => ?_) (fun hb24 => ?_)
        ·refine Mir.bind fun y104 hy25 => ?_
         refine Mir.region fun e h => ?_
         simp only [↓reduceIte, reduceCtorEq, nA, nS, nM, nE, nL, nT, nB, iT, iN, iE, and_self, SR, SV, fld_68_1, sz_2, ag_2, hb19, hb21, hb23, hb24]
         refine SpecS.by (cy_far_spec hy18) (by simp only [↓reduceIte, reduceCtorEq, nA, nE, nL, and_self, and_true, true_and, SL, hb19, hb21, hb23, hb24]) ?_
         simp only [↓reduceIte, reduceCtorEq, nA, nS, nM, nE, nL, nT, nB, iT, iN, iE, and_self, SR, SV, fld_68_2, sz_2, ag_2, hb19, hb21, hb23, hb24]
         refine SpecS.by (cy_far_spec hy20) (by simp only [↓reduceIte, reduceCtorEq, nA, nE, nL, and_self, and_true, true_and, SL, hb19, hb21, hb23, hb24]) ?_
         simp only [↓reduceIte, reduceCtorEq, nA, nS, nM, nE, nL, nT, nB, iT, iN, iE, and_self, SR, SV, fld_68_5, sz_2, ag_2, hb19, hb21, hb23, hb24]
         refine SpecS.by (cy_far_spec hy22) (by simp only [↓reduceIte, reduceCtorEq, nA, nE, nL, and_self, and_true, true_and, SL, hb19, hb21, hb23, hb24]) ?_
         simp only [↓reduceIte, reduceCtorEq, nA, nS, nM, nE, nL, nT, nB, iT, iN, iE, and_self, SR, SV, fld_68_3, sz_2, ag_2, hb19, hb21, hb23, hb24]
         refine SpecS.by (cy_far_spec hy25) (by simp only [↓reduceIte, reduceCtorEq, nA, nE, nL, and_self, and_true, true_and, SL, hb19, hb21, hb23, hb24]) ?_
         simp only [↓reduceIte, reduceCtorEq, nA, nS, nM, nE, nL, nT, nB, iT, iN, iE, and_self, SR, SV, hb19, hb21, hb23, hb24]
         cases h
         simp only [↓reduceIte, reduceCtorEq, nA, nE, nL, and_self, and_true, true_and, SL, hb19, hb21, hb23, hb24]
        ·refine Mir.region fun e h => ?_
         simp only [↓reduceIte, reduceCtorEq, nA, nS, nM, nE, nL, nT, nB, iT, iN, iE, and_self, SR, SV, fld_68_1, sz_2, ag_2, hb19, hb21, hb23, hb24]
         refine SpecS.by (cy_far_spec hy18) (by simp only [↓reduceIte, reduceCtorEq, nA, nE, nL, and_self, and_true, true_and, SL, hb19, hb21, hb23, hb24]) ?_
         simp only [↓reduceIte, reduceCtorEq, nA, nS, nM, nE, nL, nT, nB, iT, iN, iE, and_self, SR, SV, fld_68_2, sz_2, ag_2, hb19, hb21, hb23, hb24]
         refine SpecS.by (cy_far_spec hy20) (by simp only [↓reduceIte, reduceCtorEq, nA, nE, nL, and_self, and_true, true_and, SL, hb19, hb21, hb23, hb24]) ?_
         simp only [↓reduceIte, reduceCtorEq, nA, nS, nM, nE, nL, nT, nB, iT, iN, iE, and_self, SR, SV, fld_68_5, sz_2, ag_2, hb19, hb21, hb23, hb24]
         refine SpecS.by (cy_far_spec hy22) (by simp only [↓reduceIte, reduceCtorEq, nA, nE, nL, and_self, and_true, true_and, SL, hb19, hb21, hb23, hb24]) ?_
         simp only [↓reduceIte, reduceCtorEq, nA, nS, nM, nE, nL, nT, nB, iT, iN, iE, and_self, SR, SV, hb19, hb21, hb23, hb24]
         cases h
         simp only [↓reduceIte, reduceCtorEq, nA, nE, nL, and_self, and_true, true_and, SL, hb19, hb21, hb23, hb24]
    ·intro v105
     refine Mir.toK ?_
     refine Mir.cond rfl (fun hb27 => ?_) (fun hb27 => ?_)
     ·refine Mir.seqK ?_
      refine Mir.region fun e h => ?_
      simp only [↓reduceIte, reduceCtorEq, nA, nS, nM, nE, nL, nT, nB, iT, iN, iE, and_self, SR, SV]
      refine Mir.use (e := e) ?_ h
      refine Mir.ret fun e h => ?_
      cases h
      simp only [↓reduceIte, reduceCtorEq, nA, nE, nL, and_self, and_true, true_and, SL, Tryd.results97]
     ·refine Mir.skip ?_
      refine Mir.toK ?_
      refine Mir.seqK ?_
      refine Mir.seqK ?_
      refine Mir.joinO (fun v106 : Bool => [U, U, U, U, U, U, U, U, U, U, U, U, U, U, U, U, U, U, U, U, U, U, U, U, U, U, U, U, U, U, U, U, U, U, U, U, U, U, U, U, U, U, U, U, U, U, U, U, U, U, U, U, U, U, U, U, U, U, U, U, U, U, U, U, U, U, U, U, U, U, U, U, U, U, U, U, U, U, U, U, U, U, U, U, .d (.bool v106)]) (fun v106 : Bool => ⟨[[.d (.int .i64 a0.Code), .d (.int .i64 a0.R), .d (.int .i64 a0.Z), .d (.int .i64 a0.Q), .d (.int .i64 a0.Rate), .d (.int .i64 a0.Initial), .d (.bool a0.High)]], []⟩) (fun _ => rfl) ?_ ?_
      ·refine Mir.ite (fun hb28 => ?_) (fun hb28 => ?_)
       ·refine Mir.guard fun q29 => ?_
        replace q29 := ne_of q29
        refine Mir.region fun e h => ?_
        simp only [↓reduceIte, reduceCtorEq, nA, nS, nM, nE, nL, nT, nB, iT, iN, iE, and_self, SR, SV, fld_68_1, sz_2, ag_2, fld_68_2, fld_68_3, q29, hb28]
        cases h
        simp only [↓reduceIte, reduceCtorEq, nA, nE, nL, and_self, and_true, true_and, SL, hb28]
       ·refine Mir.region fun e h => ?_
        simp only [↓reduceIte, reduceCtorEq, nA, nS, nM, nE, nL, nT, nB, iT, iN, iE, and_self, SR, SV, hb28]
        cases h
        simp only [↓reduceIte, reduceCtorEq, nA, nE, nL, and_self, and_true, true_and, SL, hb28]
      ·intro v106
       refine Mir.toK ?_
       refine Mir.cond rfl (fun hb31 => ?_) (fun hb31 => ?_)
       ·refine Mir.seqK ?_
        refine Mir.region fun e h => ?_
        simp only [↓reduceIte, reduceCtorEq, nA, nS, nM, nE, nL, nT, nB, iT, iN, iE, and_self, SR, SV]
        refine Mir.use (e := e) ?_ h
        refine Mir.ret fun e h => ?_
        cases h
        simp only [↓reduceIte, reduceCtorEq, nA, nE, nL, and_self, and_true, true_and, SL, Tryd.results97]
       ·refine Mir.skip ?_
        refine Mir.toK ?_
        refine Mir.seqK ?_
        refine Mir.region fun e h => ?_
        simp only [↓reduceIte, reduceCtorEq, nA, nS, nM, nE, nL, nT, nB, iT, iN, iE, and_self, SR, SV]
        refine Mir.use (e := e) ?_ h
        refine Mir.ret fun e h => ?_
        cases h
        simp only [↓reduceIte, reduceCtorEq, nA, nE, nL, and_self, and_true, true_and, SL, Tryd.results97]

end Go.Proofs.YtlcfgpjgjdjpoaaDoor
