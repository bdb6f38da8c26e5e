/-
  Mirrors of functions, written by wip/mir.py.
-/
import Derived.Test.YtejknolljjpodaaGreatDoorGx
import Derived.Test.YtejknolljjpodaaGreatDoorTy
import Derived.Test.YtejknolljjpodaaGreatDoorBu
import Derived.Test.YtejknolljjpodaaGreatDoorGz
import Derived.Test.YtejknolljjpodaaGreatDoorLb
import Derived.Test.YtejknolljjpodaaGreatDoorSzb
namespace Go.Proofs.YtejknolljjpodaaGreatDoor
open Go.RowKit
open Nat renaming reduceAdd → nA, reduceSub → nS, reduceMul → nM, reduceEqDiff → nE, reduceLeDiff → nL, reduceLT → nT, reduceBEq → nB
open Int renaming reduceLT → iT, reduceToNat → iN, reduceEq → iE
set_option linter.unusedVariables false
set_option linter.unusedSimpArgs false
set_option maxRecDepth 100000

structure ApiPos where
  X : Int
  Y : Int
  Z : Int
  deriving DecidableEq
def encApiPos (x : ApiPos) : List D := [.int .i64 x.X, .int .i64 x.Y, .int .i64 x.Z]
structure ApiGrid2 where
  X : Int
  Y : Int
  deriving DecidableEq
def encApiGrid2 (x : ApiGrid2) : List D := [.int .i64 x.X, .int .i64 x.Y]
structure ApiMove where
  Kind : Int
  To : ApiPos
  Center : ApiGrid2
  Rate : Int
  deriving DecidableEq
def encApiMove (x : ApiMove) : List D := [.int .i64 x.Kind, .int .i64 x.To.X, .int .i64 x.To.Y, .int .i64 x.To.Z, .int .i64 x.Center.X, .int .i64 x.Center.Y, .int .i64 x.Rate]
structure ApiWord where
  Letter : Int
  Value : Int
  deriving DecidableEq
def encApiWord (x : ApiWord) : List D := [.int .u8 x.Letter, .int .i64 x.Value]
theorem al_ApiWord {l : List ApiWord} : (List.map encApiWord l).all (fun x => x.length == 2) = true := by simp [List.all_eq_true, encApiWord]
structure ApiBlock where
  Skip : Bool
  Words : (List ApiWord)
  Comment : (List UInt8)
  deriving DecidableEq
def encApiBlock (x : ApiBlock) : List D := [.bool x.Skip, .list (List.map encApiWord x.Words), .str x.Comment]
theorem al_ApiBlock {l : List ApiBlock} : (List.map encApiBlock l).all (fun x => x.length == 3) = true := by simp [List.all_eq_true, encApiBlock]
structure ApiStage where
  Tool : Int
  Moves : (List ApiMove)
  deriving DecidableEq
def encApiStage (x : ApiStage) : List D := [.int .i64 x.Tool, .list (List.map encApiMove x.Moves)]
structure PostOptions where
  Work : Int
  Compress : Bool
  Numbers : Int
  Fold : Int
  deriving DecidableEq
def encPostOptions (x : PostOptions) : List D := [.int .i64 x.Work, .bool x.Compress, .int .i64 x.Numbers, .int .i64 x.Fold]
structure ModalState where
  Motion : Int
  Distance : Int
  Work : Int
  Length : Int
  Return : Int
  Feed : Int
  Tool : Int
  Offset : Int
  deriving DecidableEq
def encModalState (x : ModalState) : List D := [.int .i64 x.Motion, .int .i64 x.Distance, .int .i64 x.Work, .int .i64 x.Length, .int .i64 x.Return, .int .i64 x.Feed, .int .i64 x.Tool, .int .i64 x.Offset]
structure SubprogramSub where
  Number : Int
  Blocks : (List ApiBlock)
  deriving DecidableEq
def encSubprogramSub (x : SubprogramSub) : List D := [.int .i64 x.Number, .list (List.map encApiBlock x.Blocks)]
structure SubprogramProgram where
  Main : (List ApiBlock)
  Subs : (List SubprogramSub)
  deriving DecidableEq
def encSubprogramProgram (x : SubprogramProgram) : List D := [.list (List.map encApiBlock x.Main), .list (List.map encSubprogramSub x.Subs)]
theorem ENMB : type_of% (And.intro @encApiPos.eq_1 <| And.intro @encApiGrid2.eq_1 <| And.intro @encApiMove.eq_1 <| And.intro @encApiWord.eq_1 <| And.intro @encApiBlock.eq_1 <| And.intro @encApiStage.eq_1 <| And.intro @encPostOptions.eq_1 <| And.intro @encModalState.eq_1 <| And.intro @encSubprogramSub.eq_1 <| @encSubprogramProgram.eq_1) := And.intro @encApiPos.eq_1 <| And.intro @encApiGrid2.eq_1 <| And.intro @encApiMove.eq_1 <| And.intro @encApiWord.eq_1 <| And.intro @encApiBlock.eq_1 <| And.intro @encApiStage.eq_1 <| And.intro @encPostOptions.eq_1 <| And.intro @encModalState.eq_1 <| And.intro @encSubprogramSub.eq_1 <| @encSubprogramProgram.eq_1
def ip_apart (a0 : Int) (a1 : Int) : Option Int :=
  bindO (if (decide (a0 < a1)) = true then
        some (a1, a0)
      else
        some (a0, a1)) fun (v101 : Int × Int) =>
  some (IntKind.u64.wrap ((IntKind.u64.wrap v101.1) - (IntKind.u64.wrap v101.2)))
theorem ip_apart_spec {a0 : Int} {a1 : Int} {y : Int} (h : ip_apart a0 a1 = some y) : Spec gP 75 [.d (.int .i64 a0), .d (.int .i64 a1)] (.d (.int .u64 y)) := by
  refine spec_mir Tryz.func75 rfl (by kernel_rfl) (by kernel_rfl) (fun y : Int => .d (.int .u64 y)) ?_ h
  unfold ip_apart
  simp only [List.replicate, List.length, nS, nA, Tryz.ntmps75, SV]
  refine .seqK (.region fun e h => ?_)
  simp only [seval, SE]
  refine mU e ?_ h
  refine .seqK (.seqK (.region fun e h => ?_))
  simp only [seval, SE]
  refine mU e ?_ h
  refine Mir.joinO (fun v101 : Int × Int => (.d (.int .i64 v101.1) :: .d (.int .i64 v101.2) :: us 13)) (fun v101 => ⟨[], []⟩) (fun _ => rfl) ?_ ?_
  refine .cond rfl (fun hb2 => ?_) (fun hb2 => ?_)
  refine .region fun e h => ?_
  simp only [seval, SE]
  cases h
  simp only [seval, SF, Tryz.results75]
  refine .skip fun e h => ?_
  cases h
  simp only [seval, SF, Tryz.results75]
  intro v101
  refine Mir.toK (.seqK (.region fun e h => ?_))
  simp only [seval, SE, und_2, und_123]
  refine mU e ?_ h
  refine .ret fun e h => ?_
  cases h
  simp only [seval, SF, Tryz.results75]

def ip_point (a0 : ApiPos) (a1 : ApiGrid2) : Option (Int × Int) :=
  if ((a0.Y == a1.Y) && (decide (a0.X > a1.X))) = true then
    bindO (ip_apart a0.X a1.X) fun (y109 : Int) =>
    some (0, y109)
  else
    if ((a0.X == a1.X) && (decide (a0.Y > a1.Y))) = true then
      bindO (ip_apart a0.Y a1.Y) fun (y113 : Int) =>
      some (1, y113)
    else
      if ((a0.Y == a1.Y) && (decide (a0.X < a1.X))) = true then
        bindO (ip_apart a0.X a1.X) fun (y116 : Int) =>
        some (2, y116)
      else
        if ((a0.X == a1.X) && (decide (a0.Y < a1.Y))) = true then
          bindO (ip_apart a0.Y a1.Y) fun (y118 : Int) =>
          some (3, y118)
        else
          some (0, 0)
theorem ip_point_spec {a0 : ApiPos} {a1 : ApiGrid2} {y : Int × Int} (h : ip_point a0 a1 = some y) : Spec gP 74 [.agg [.d (.int .i64 a0.X), .d (.int .i64 a0.Y), .d (.int .i64 a0.Z)], .agg [.d (.int .i64 a1.X), .d (.int .i64 a1.Y)]] (.tuple [.d (.int .i64 y.1), .d (.int .u64 y.2)]) := by
  refine spec_mir Tryz.func74 rfl (by kernel_rfl) (by kernel_rfl) (fun y : Int × Int => .tuple [.d (.int .i64 y.1), .d (.int .u64 y.2)]) ?_ h
  unfold ip_point
  simp only [List.replicate, List.length, nS, nA, Tryz.ntmps74, SV]
  refine .seqK (.region fun e h => ?_)
  simp only [seval, SE]
  refine mU e ?_ h
  refine .seqK (.block (.seqK (.joinV (U :: U :: .ptr 0 0 :: .ptr 1 0 :: U :: U :: .d (.bool ((a0.Y == a1.Y) && (decide (a0.X > a1.X)))) :: us 71) ⟨[[.d (.int .i64 a0.X), .d (.int .i64 a0.Y), .d (.int .i64 a0.Z)], [.d (.int .i64 a1.X), .d (.int .i64 a1.Y)]], []⟩ rfl ?_ ?_)))
  refine SWs.region ?_
  rcases Bool.eq_false_or_eq_true (a0.Y == a1.Y) with hb13 | hb13
  simp only [seval, SE, SL, PB, fld_23_1, sz_2, ag_2, fld_25_1, fld_23_0, fld_25_0, hb13]
  simp only [seval, SE, SL, PB, fld_23_1, sz_2, ag_2, fld_25_1, hb13]
  refine Mir.toK (.cond rfl (fun hb25 => ?_) (fun hb25 => ?_))
  refine .seqK (.bind fun y109 hy26 => .region fun e h => ?_)
  simp only [seval, SE, fld_23_0, sz_2, ag_2, fld_25_0]
  refine SpecS.by (ip_apart_spec hy26) (by simp only [seval, SF]) ?_
  simp only [seval, SE]
  refine mU e ?_ h
  refine .ret fun e h => ?_
  cases h
  simp only [seval, SF, Tryz.results74]
  refine .seqK (.joinV (U :: U :: .ptr 0 0 :: .ptr 1 0 :: U :: U :: U :: U :: U :: U :: U :: U :: U :: U :: U :: U :: U :: U :: U :: U :: U :: U :: U :: U :: .d (.bool ((a0.X == a1.X) && (decide (a0.Y > a1.Y)))) :: us 53) ⟨[[.d (.int .i64 a0.X), .d (.int .i64 a0.Y), .d (.int .i64 a0.Z)], [.d (.int .i64 a1.X), .d (.int .i64 a1.Y)]], []⟩ rfl ?_ ?_)
  refine SWs.region ?_
  rcases Bool.eq_false_or_eq_true (a0.X == a1.X) with hb27 | hb27
  simp only [seval, SE, SL, PB, fld_23_0, sz_2, ag_2, fld_25_0, fld_23_1, fld_25_1, hb27]
  simp only [seval, SE, SL, PB, fld_23_0, sz_2, ag_2, fld_25_0, hb27]
  refine Mir.toK (.cond rfl (fun hb36 => ?_) (fun hb36 => ?_))
  refine .seqK (.bind fun y113 hy37 => .region fun e h => ?_)
  simp only [seval, SE, fld_23_1, sz_2, ag_2, fld_25_1]
  refine SpecS.by (ip_apart_spec hy37) (by simp only [seval, SF]) ?_
  simp only [seval, SE]
  refine mU e ?_ h
  refine .ret fun e h => ?_
  cases h
  simp only [seval, SF, Tryz.results74]
  refine .seqK (.joinV (U :: U :: .ptr 0 0 :: .ptr 1 0 :: U :: U :: U :: U :: U :: U :: U :: U :: U :: U :: U :: U :: U :: U :: U :: U :: U :: U :: U :: U :: U :: U :: U :: U :: U :: U :: U :: U :: U :: U :: U :: U :: U :: U :: U :: U :: U :: U :: .d (.bool ((a0.Y == a1.Y) && (decide (a0.X < a1.X)))) :: us 35) ⟨[[.d (.int .i64 a0.X), .d (.int .i64 a0.Y), .d (.int .i64 a0.Z)], [.d (.int .i64 a1.X), .d (.int .i64 a1.Y)]], []⟩ rfl ?_ ?_)
  refine SWs.region ?_
  rcases Bool.eq_false_or_eq_true (a0.Y == a1.Y) with hb38 | hb38
  simp only [seval, SE, SL, PB, fld_23_1, sz_2, ag_2, fld_25_1, fld_23_0, fld_25_0, hb38]
  simp only [seval, SE, SL, PB, fld_23_1, sz_2, ag_2, fld_25_1, hb38]
  refine Mir.toK (.cond rfl (fun hb44 => ?_) (fun hb44 => ?_))
  refine .seqK (.bind fun y116 hy45 => .region fun e h => ?_)
  simp only [seval, SE, fld_23_0, sz_2, ag_2, fld_25_0]
  refine SpecS.by (ip_apart_spec hy45) (by simp only [seval, SF]) ?_
  simp only [seval, SE]
  refine mU e ?_ h
  refine .ret fun e h => ?_
  cases h
  simp only [seval, SF, Tryz.results74]
  refine .seqK (.joinV (U :: U :: .ptr 0 0 :: .ptr 1 0 :: U :: U :: U :: U :: U :: U :: U :: U :: U :: U :: U :: U :: U :: U :: U :: U :: U :: U :: U :: U :: U :: U :: U :: U :: U :: U :: U :: U :: U :: U :: U :: U :: U :: U :: U :: U :: U :: U :: U :: U :: U :: U :: U :: U :: U :: U :: U :: U :: U :: U :: U :: U :: U :: U :: U :: U :: .d (.bool ((a0.X == a1.X) && (decide (a0.Y < a1.Y)))) :: us 17) ⟨[[.d (.int .i64 a0.X), .d (.int .i64 a0.Y), .d (.int .i64 a0.Z)], [.d (.int .i64 a1.X), .d (.int .i64 a1.Y)]], []⟩ rfl ?_ ?_)
  refine SWs.region ?_
  rcases Bool.eq_false_or_eq_true (a0.X == a1.X) with hb46 | hb46
  simp only [seval, SE, SL, PB, fld_23_0, sz_2, ag_2, fld_25_0, fld_23_1, fld_25_1, hb46]
  simp only [seval, SE, SL, PB, fld_23_0, sz_2, ag_2, fld_25_0, hb46]
  refine Mir.toK (.cond rfl (fun hb49 => ?_) (fun hb49 => ?_))
  refine .seqK (.bind fun y118 hy50 => .region fun e h => ?_)
  simp only [seval, SE, fld_23_1, sz_2, ag_2, fld_25_1]
  refine SpecS.by (ip_apart_spec hy50) (by simp only [seval, SF]) ?_
  simp only [seval, SE]
  refine mU e ?_ h
  refine .ret fun e h => ?_
  cases h
  simp only [seval, SF, Tryz.results74]
  refine .skip (Mir.toB (Mir.toK (.seqK (.region fun e h => ?_))))
  simp only [seval, SE]
  refine mU e ?_ h
  refine .ret fun e h => ?_
  cases h
  simp only [seval, SF, Tryz.results74]

def ip_isArc (a0 : ApiMove) : Option Bool :=
  some ((a0.Kind == 3) || (a0.Kind == 4))
theorem ip_isArc_spec {a0 : ApiMove} {y : Bool} (h : ip_isArc a0 = some y) : Spec gP 73 [.agg [.d (.int .i64 a0.Kind), .d (.int .i64 a0.To.X), .d (.int .i64 a0.To.Y), .d (.int .i64 a0.To.Z), .d (.int .i64 a0.Center.X), .d (.int .i64 a0.Center.Y), .d (.int .i64 a0.Rate)]] (.d (.bool y)) := by
  refine spec_mir Tryz.func73 rfl (by kernel_rfl) (by kernel_rfl) (fun y : Bool => .d (.bool y)) ?_ h
  unfold ip_isArc
  simp only [List.replicate, List.length, nS, nA, Tryz.ntmps73, SV]
  refine .seqK (.region fun e h => ?_)
  simp only [seval, SE]
  refine mU e ?_ h
  refine .seqK (.joinV (U :: U :: .d (.bool ((a0.Kind == 3) || (a0.Kind == 4))) :: us 8) ⟨[[.d (.int .i64 a0.Kind), .d (.int .i64 a0.To.X), .d (.int .i64 a0.To.Y), .d (.int .i64 a0.To.Z), .d (.int .i64 a0.Center.X), .d (.int .i64 a0.Center.Y), .d (.int .i64 a0.Rate)]], []⟩ rfl ?_ ?_)
  refine SWs.region ?_
  rcases Bool.eq_false_or_eq_true (a0.Kind == 3) with hb1 | hb1
  simp only [seval, SE, SL, PB, fld_27_0, sz_3, ag_3, hb1]
  simp only [seval, SE, SL, PB, fld_27_0, sz_3, ag_3, hb1]
  refine Mir.toK (.ret fun e h => ?_)
  cases h
  simp only [seval, SF, Tryz.results73]

def ip_right (a0 : ApiPos) (a1 : ApiMove) : Option Bool :=
  if (a1.Kind == 1) = true then
    some (a1.Rate == 0)
  else
    if (a1.Kind == 2) = true then
      some (decide (a1.Rate > 0))
    else
      bindO (ip_point a0 a1.Center) fun (y101 : Int × Int) =>
      bindO (ip_point a1.To a1.Center) fun (y102 : Int × Int) =>
      bindO (bindO (ip_isArc (ApiMove.mk a1.Kind a1.To a1.Center a1.Rate)) fun (y103 : Bool) =>
          if y103 = true then
            if (decide (a1.Rate > 0)) = true then
              if (decide (y101.2 > 0)) = true then
                some (y101.2 == y102.2)
              else
                some false
            else
              some false
          else
            some false) fun (v104 : Bool) =>
      some v104
theorem ip_right_spec {a0 : ApiPos} {a1 : ApiMove} {y : Bool} (h : ip_right a0 a1 = some y) : Spec gP 72 [.agg [.d (.int .i64 a0.X), .d (.int .i64 a0.Y), .d (.int .i64 a0.Z)], .agg [.d (.int .i64 a1.Kind), .d (.int .i64 a1.To.X), .d (.int .i64 a1.To.Y), .d (.int .i64 a1.To.Z), .d (.int .i64 a1.Center.X), .d (.int .i64 a1.Center.Y), .d (.int .i64 a1.Rate)]] (.d (.bool y)) := by
  refine spec_mir Tryz.func72 rfl (by kernel_rfl) (by kernel_rfl) (fun y : Bool => .d (.bool y)) ?_ h
  unfold ip_right
  simp only [List.replicate, List.length, nS, nA, Tryz.ntmps72, SV]
  refine .seqK (.region fun e h => ?_)
  simp only [seval, SE]
  refine mU e ?_ h
  refine .seqK (.seqK (.region fun e h => ?_))
  simp only [seval, SE, fld_27_0, sz_3, ag_3]
  refine mU e ?_ h
  refine .block (.seqK (.region fun e h => ?_))
  simp only [seval, SE]
  refine mU e ?_ h
  refine .cond rfl (fun hb5 => ?_) (fun hb5 => ?_)
  refine .seqK (.region fun e h => ?_)
  simp only [seval, SE, fld_27_3, sz_2, ag_2]
  refine mU e ?_ h
  refine .ret fun e h => ?_
  cases h
  simp only [seval, SF, Tryz.results72]
  refine .seqK (.region fun e h => ?_)
  simp only [seval, SE]
  refine mU e ?_ h
  refine .cond rfl (fun hb7 => ?_) (fun hb7 => ?_)
  refine .seqK (.region fun e h => ?_)
  simp only [seval, SE, fld_27_3, sz_2, ag_2]
  refine mU e ?_ h
  refine .ret fun e h => ?_
  cases h
  simp only [seval, SF, Tryz.results72]
  refine .skip (Mir.toB (Mir.toK (.seqK (.bind fun y101 hy8 => .region fun e h => ?_))))
  simp only [seval, SE, ag_23, sz_23, fld_27_2, sz_25, ag_25]
  refine SpecS.by (ip_point_spec hy8) (by simp only [seval, SF]) ?_
  simp only [seval, SE]
  refine mU e ?_ h
  refine .seqK (.bind fun y102 hy9 => .region fun e h => ?_)
  simp only [seval, SE, fld_27_1, sz_23, ag_23, fld_27_2, sz_25, ag_25]
  refine SpecS.by (ip_point_spec hy9) (by simp only [seval, SF]) ?_
  simp only [seval, SE]
  refine mU e ?_ h
  refine .seqK (Mir.joinO (fun v104 : Bool => (U :: U :: U :: U :: .d (.bool v104) :: us 47)) (fun v104 => ⟨[[.d (.int .i64 a0.X), .d (.int .i64 a0.Y), .d (.int .i64 a0.Z)], [.d (.int .i64 a1.Kind), .d (.int .i64 a1.To.X), .d (.int .i64 a1.To.Y), .d (.int .i64 a1.To.Z), .d (.int .i64 a1.Center.X), .d (.int .i64 a1.Center.Y), .d (.int .i64 a1.Rate)]], []⟩) (fun _ => rfl) ?_ ?_)
  refine .bind fun y103 hy10 => .ite (fun hb11 => ?_) (fun hb11 => ?_)
  refine .ite (fun hb12 => ?_) (fun hb12 => ?_)
  refine .ite (fun hb13 => ?_) (fun hb13 => ?_)
  refine .region fun e h => ?_
  simp only [seval, SE, ag_27, sz_27, hb11, hb12, hb13]
  refine SpecS.by (ip_isArc_spec hy10) (by simp only [seval, SF, hb11, hb12, hb13]) ?_
  simp only [seval, SE, fld_27_3, sz_2, ag_2, hb11, hb12, hb13]
  cases h
  simp only [seval, SF, hb11, hb12, hb13]
  refine .region fun e h => ?_
  simp only [seval, SE, ag_27, sz_27, hb11, hb12, hb13]
  refine SpecS.by (ip_isArc_spec hy10) (by simp only [seval, SF, hb11, hb12, hb13]) ?_
  simp only [seval, SE, fld_27_3, sz_2, ag_2, hb11, hb12, hb13]
  cases h
  simp only [seval, SF, hb11, hb12, hb13]
  refine .region fun e h => ?_
  simp only [seval, SE, ag_27, sz_27, hb11, hb12]
  refine SpecS.by (ip_isArc_spec hy10) (by simp only [seval, SF, hb11, hb12]) ?_
  simp only [seval, SE, fld_27_3, sz_2, ag_2, hb11, hb12]
  cases h
  simp only [seval, SF, hb11, hb12]
  refine .region fun e h => ?_
  simp only [seval, SE, ag_27, sz_27, hb11]
  refine SpecS.by (ip_isArc_spec hy10) (by simp only [seval, SF, hb11]) ?_
  simp only [seval, SE, hb11]
  cases h
  simp only [seval, SF, hb11]
  intro v104
  refine Mir.toK (.ret fun e h => ?_)
  cases h
  simp only [seval, SF, Tryz.results72]

def ip_Valid (a0 : ApiPos) (a1 : ApiMove) : Option Int :=
  bindO (ip_right (ApiPos.mk a0.X a0.Y a0.Z) (ApiMove.mk a1.Kind a1.To a1.Center a1.Rate)) fun (y101 : Bool) =>
  if (!y101) = true then
    some 1
  else
    bindO (ip_isArc (ApiMove.mk a1.Kind a1.To a1.Center a1.Rate)) fun (y102 : Bool) =>
    bindX (if y102 = true then
          bindO (ip_point (ApiPos.mk a0.X a0.Y a0.Z) a1.Center) fun (y108 : Int × Int) =>
          bindO (if (decide (y108.2 > 10000000)) = true then
                some true
              else
                bindO (ip_apart a1.Center.X 0) fun (y109 : Int) =>
                if (decide (y109 > 10000000)) = true then
                  some true
                else
                  bindO (ip_apart a1.Center.Y 0) fun (y110 : Int) =>
                  some (decide (y110 > 10000000))) fun (v111 : Bool) =>
          if v111 = true then
            some (.ret 11)
          else
            some (.go [a0.X, a0.Y, a0.Z, a1.To.X, a1.To.Y, a1.To.Z, IntKind.i64.wrap (a1.Center.X + (IntKind.i64.wrap y108.2)), IntKind.i64.wrap (a1.Center.X - (IntKind.i64.wrap y108.2)), IntKind.i64.wrap (a1.Center.Y + (IntKind.i64.wrap y108.2)), IntKind.i64.wrap (a1.Center.Y - (IntKind.i64.wrap y108.2))])
        else
          some (.go [a0.X, a0.Y, a0.Z, a1.To.X, a1.To.Y, a1.To.Z])) fun (v107 : (List Int)) =>
    bindX (guardO (okIdx v107) (
        rangeX (fun (i152 : Nat) (e154 : Int) (v153 : Unit) =>
          bindO (ip_apart e154 0) fun (y156 : Int) =>
          if (decide (y156 > 10000000)) = true then
            some (.ret (.ret 11))
          else
            some (.go ())) (fun (v153 : Unit) => some (.go ())) v107 0 ())) fun (v134 : Unit) =>
    some 0
set_option maxHeartbeats 8000000 in
theorem ip_Valid_spec {a0 : ApiPos} {a1 : ApiMove} {y : Int} (h : ip_Valid a0 a1 = some y) : Spec gP 31 [.agg [.d (.int .i64 a0.X), .d (.int .i64 a0.Y), .d (.int .i64 a0.Z)], .agg [.d (.int .i64 a1.Kind), .d (.int .i64 a1.To.X), .d (.int .i64 a1.To.Y), .d (.int .i64 a1.To.Z), .d (.int .i64 a1.Center.X), .d (.int .i64 a1.Center.Y), .d (.int .i64 a1.Rate)]] (.d (.int .i64 y)) := by
  refine spec_mir Tryz.func31 rfl (by kernel_rfl) (by kernel_rfl) (fun y : Int => .d (.int .i64 y)) ?_ h
  unfold ip_Valid
  simp only [List.replicate, List.length, nS, nA, Tryz.ntmps31, SV]
  refine .seqK (.region fun e h => ?_)
  simp only [seval, SE, eInt]
  refine mU e ?_ h
  refine .seqK (.seqK (.bind fun y101 hy1 => .region fun e h => ?_))
  simp only [seval, SE, ag_23, sz_23, ag_27, sz_27, eInt]
  refine SpecS.by (ip_right_spec hy1) (by simp only [seval, SF, eInt]) ?_
  simp only [seval, SE, eInt]
  refine mU e ?_ h
  refine .cond rfl (fun hb3 => ?_) (fun hb3 => ?_)
  refine .seqK (.region fun e h => ?_)
  simp only [seval, SE]
  refine mU e ?_ h
  refine .ret fun e h => ?_
  cases h
  simp only [seval, SF, Tryz.results31]
  refine .skip (Mir.toK (.seqK (.region fun e h => ?_)))
  simp only [seval, SE, fld_23_0, sz_2, ag_2, fld_23_1, fld_23_2, fld_27_1, sz_23, und_121, zero_2, (nr rfl : okLen 6 = true), eInt]
  refine mU e ?_ h
  refine .seqK (.seqK (.bind fun y102 hy4 => .region fun e h => ?_))
  simp only [seval, SE, ag_27, sz_27, eInt]
  refine SpecS.by (ip_isArc_spec hy4) (by simp only [seval, SF, eInt]) ?_
  simp only [seval, SE, eInt]
  refine mU e ?_ h
  refine Mir.join (fun v107 : (List Int) => (U :: U :: U :: U :: U :: .d (.list (List.map (eInt .i64) v107)) :: us 85)) (fun v107 => ⟨[[.d (.int .i64 a0.X), .d (.int .i64 a0.Y), .d (.int .i64 a0.Z)], [.d (.int .i64 a1.Kind), .d (.int .i64 a1.To.X), .d (.int .i64 a1.To.Y), .d (.int .i64 a1.To.Z), .d (.int .i64 a1.Center.X), .d (.int .i64 a1.Center.Y), .d (.int .i64 a1.Rate)]], []⟩) (fun _ => rfl) ?_ ?_
  refine .cond rfl (fun hb13 => ?_) (fun hb13 => ?_)
  refine .seqK (.bind fun y108 hy14 => .region fun e h => ?_)
  simp only [seval, SE, ag_23, sz_23, fld_27_2, sz_25, ag_25, eInt]
  refine SpecS.by (ip_point_spec hy14) (by simp only [seval, SF, eInt]) ?_
  simp only [seval, SE, eInt]
  refine mU e ?_ h
  refine .seqK (.seqK (Mir.joinO (fun v111 : Bool => (U :: U :: U :: .ptr 1 0 :: U :: .full (List.map (eInt .i64) [a0.X, a0.Y, a0.Z, a1.To.X, a1.To.Y, a1.To.Z]) :: U :: .d (.int .u64 y108.2) :: U :: U :: U :: U :: U :: U :: U :: U :: U :: U :: U :: U :: U :: U :: U :: U :: U :: U :: U :: U :: U :: U :: U :: U :: U :: U :: U :: U :: U :: U :: U :: U :: U :: U :: U :: U :: U :: U :: U :: U :: U :: U :: U :: U :: U :: U :: U :: .d (.bool v111) :: us 35)) (fun v111 => ⟨[[.d (.int .i64 a0.X), .d (.int .i64 a0.Y), .d (.int .i64 a0.Z)], [.d (.int .i64 a1.Kind), .d (.int .i64 a1.To.X), .d (.int .i64 a1.To.Y), .d (.int .i64 a1.To.Z), .d (.int .i64 a1.Center.X), .d (.int .i64 a1.Center.Y), .d (.int .i64 a1.Rate)]], []⟩) (fun _ => rfl) ?_ ?_))
  refine .ite (fun hb15 => ?_) (fun hb15 => ?_)
  refine .region fun e h => ?_
  simp only [seval, SE, eInt, hb15]
  cases h
  simp only [seval, SF, eInt, hb15]
  refine .bind fun y109 hy16 => .ite (fun hb17 => ?_) (fun hb17 => ?_)
  refine .region fun e h => ?_
  simp only [seval, SE, fld_27_2, sz_25, fld_25_0, sz_2, ag_2, eInt, hb15, hb17]
  refine SpecS.by (ip_apart_spec hy16) (by simp only [seval, SF, eInt, hb15, hb17]) ?_
  simp only [seval, SE, eInt, hb15, hb17]
  cases h
  simp only [seval, SF, eInt, hb15, hb17]
  refine .bind fun y110 hy18 => .region fun e h => ?_
  simp only [seval, SE, fld_27_2, sz_25, fld_25_0, sz_2, ag_2, eInt, hb15, hb17]
  refine SpecS.by (ip_apart_spec hy16) (by simp only [seval, SF, eInt, hb15, hb17]) ?_
  simp only [seval, SE, fld_27_2, sz_25, fld_25_1, sz_2, ag_2, eInt, hb15, hb17]
  refine SpecS.by (ip_apart_spec hy18) (by simp only [seval, SF, eInt, hb15, hb17]) ?_
  simp only [seval, SE, eInt, hb15, hb17]
  cases h
  simp only [seval, SF, eInt, hb15, hb17]
  intro v111
  refine Mir.toK (.cond rfl (fun hb20 => ?_) (fun hb20 => ?_))
  refine .seqK (.region fun e h => ?_)
  simp only [seval, SE, eInt]
  refine mU e ?_ h
  refine .ret fun e h => ?_
  cases h
  simp only [seval, SF, eInt, Tryz.results31]
  refine .skip (Mir.toK (.seqK (.region fun e h => ?_)))
  simp only [seval, SE, und_123, und_2, eInt]
  refine mU e ?_ h
  refine .region fun e h => ?_
  simp only [seval, SE, fld_27_2, sz_25, fld_25_0, sz_2, ag_2, fld_25_1, und_121, zero_2, (nr rfl : okLen 4 = true), app_121, al_eInt, (nr rfl : okLen 10 = true), eInt]
  cases h
  simp only [seval, SF, eInt, Tryz.results31]
  refine .skip fun e h => ?_
  cases h
  simp only [seval, SF, eInt, Tryz.results31]
  intro v107
  refine Mir.toK (.seqK (.seqK (.region fun e h => ?_)))
  simp only [seval, SE, und_121, eInt]
  refine mU e ?_ h
  refine Mir.join (fun v134 : Unit => (us 91)) (fun v134 => ⟨[[.d (.int .i64 a0.X), .d (.int .i64 a0.Y), .d (.int .i64 a0.Z)], [.d (.int .i64 a1.Kind), .d (.int .i64 a1.To.X), .d (.int .i64 a1.To.Y), .d (.int .i64 a1.To.Z), .d (.int .i64 a1.Center.X), .d (.int .i64 a1.Center.Y), .d (.int .i64 a1.Rate)]], []⟩) (fun _ => rfl) ?_ ?_
  refine .block (.guard fun qg85 => Mir.range (fun (i152 : Nat) (v153 : Unit) => (U :: U :: U :: U :: U :: U :: U :: U :: U :: U :: U :: U :: U :: U :: U :: U :: U :: U :: U :: U :: U :: U :: U :: U :: U :: U :: U :: U :: U :: U :: U :: U :: U :: U :: U :: U :: U :: U :: U :: U :: U :: U :: U :: U :: U :: U :: U :: U :: U :: U :: U :: U :: U :: U :: U :: U :: U :: U :: U :: U :: U :: U :: U :: U :: U :: U :: U :: U :: U :: U :: U :: U :: U :: U :: U :: U :: U :: U :: U :: U :: U :: .d (.list (List.map (eInt .i64) v107)) :: .d (.int .i64 (v107.length : Int)) :: .d (.int .i64 (i152 : Int)) :: us 7)) (fun i152 v153 => ⟨[[.d (.int .i64 a0.X), .d (.int .i64 a0.Y), .d (.int .i64 a0.Z)], [.d (.int .i64 a1.Kind), .d (.int .i64 a1.To.X), .d (.int .i64 a1.To.Y), .d (.int .i64 a1.To.Z), .d (.int .i64 a1.Center.X), .d (.int .i64 a1.Center.Y), .d (.int .i64 a1.Rate)]], []⟩) qg85 (fun _ _ => rfl) (by simp only [seval, SF, eInt, (nr rfl : ((0 : Nat) : Int) = 0)]) (by simp only [seval, SF, eInt, (nr rfl : ((0 : Nat) : Int) = 0)]) ?_ ?_)
  intro i152 e154 v153 qr83
  refine .seqK (.region fun e h => ?_)
  simp only [seval, SE, qr83, eInt]
  refine mU e ?_ h
  refine .seqK (.condT rfl (.skip (Mir.toK (.seqK (.block (.seqK (.region fun e h => ?_)))))))
  simp only [seval, SE, und_121, sz_2, qr83, Int.toNat_natCast, ag_2, eInt]
  refine mU e ?_ h
  refine .seqK (.bind fun y156 hy88 => .region fun e h => ?_)
  simp only [seval, SE, eInt]
  refine SpecS.by (ip_apart_spec hy88) (by simp only [seval, SF, eInt]) ?_
  simp only [seval, SE, eInt]
  refine mU e ?_ h
  refine .cond rfl (fun hb90 => ?_) (fun hb90 => ?_)
  refine .seqK (.region fun e h => ?_)
  simp only [seval, SE, eInt]
  refine mU e ?_ h
  refine .ret fun e h => ?_
  cases h
  simp only [seval, SF, eInt, Tryz.results31]
  refine .skip (Mir.toB (Mir.toK (.region fun e h => ?_)))
  simp only [seval, SE, eInt]
  cases h
  simp only [seval, SF, eInt, Tryz.results31, qr83]
  intro v153 qd84
  refine .seqK (.region fun e h => ?_)
  simp only [seval, SE, qd84, eInt]
  refine mU e ?_ h
  refine .seqK (.condF rfl (.exit fun e h => ?_))
  cases h
  simp only [seval, SF, eInt, Tryz.results31]
  intro v134
  refine Mir.toK (.seqK (.region fun e h => ?_))
  simp only [seval, SE, eInt]
  refine mU e ?_ h
  refine .ret fun e h => ?_
  cases h
  simp only [seval, SF, eInt, Tryz.results31]

def po_word (a0 : Int) (a1 : Int) : Option ApiWord :=
  some (ApiWord.mk a0 a1)
theorem po_word_spec {a0 : Int} {a1 : Int} {y : ApiWord} (h : po_word a0 a1 = some y) : Spec gP 34 [.d (.int .u8 a0), .d (.int .i64 a1)] (.agg [.d (.int .u8 y.Letter), .d (.int .i64 y.Value)]) := by
  refine spec_mir Tryz.func34 rfl (by kernel_rfl) (by kernel_rfl) (fun y : ApiWord => .agg [.d (.int .u8 y.Letter), .d (.int .i64 y.Value)]) ?_ h
  unfold po_word
  simp only [List.replicate, List.length, nS, nA, Tryz.ntmps34, SV]
  refine .seqK (.region fun e h => ?_)
  simp only [seval, SE, zero_77]
  refine mU e ?_ h
  refine .seqK (.region fun e h => ?_)
  simp only [seval, SE, zero_77, pl_77, sz_77]
  refine mU e ?_ h
  refine .ret fun e h => ?_
  cases h
  simp only [seval, SF, Tryz.results34, ag_77, sz_77]

def po_whole (a0 : Int) (a1 : Int) : Option ApiWord :=
  bindO (po_word a0 (IntKind.i64.wrap (1000 * a1))) fun (y101 : ApiWord) =>
  some y101
theorem po_whole_spec {a0 : Int} {a1 : Int} {y : ApiWord} (h : po_whole a0 a1 = some y) : Spec gP 33 [.d (.int .u8 a0), .d (.int .i64 a1)] (.agg [.d (.int .u8 y.Letter), .d (.int .i64 y.Value)]) := by
  refine spec_mir Tryz.func33 rfl (by kernel_rfl) (by kernel_rfl) (fun y : ApiWord => .agg [.d (.int .u8 y.Letter), .d (.int .i64 y.Value)]) ?_ h
  unfold po_whole
  simp only [List.replicate, List.length, nS, nA, Tryz.ntmps33, SV]
  refine .seqK (.region fun e h => ?_)
  simp only [seval, SE, zero_77]
  refine mU e ?_ h
  refine .seqK (.bind fun y101 hy1 => .region fun e h => ?_)
  simp only [seval, SE]
  refine SpecS.by (po_word_spec hy1) (by simp only [seval, SF]) ?_
  simp only [seval, SE, sz_77]
  refine mU e ?_ h
  refine .ret fun e h => ?_
  cases h
  simp only [seval, SF, Tryz.results33, ag_77, sz_77]

def po_words (a0 : (List ApiWord)) : Option ApiBlock :=
  some (ApiBlock.mk false a0 [])
theorem po_words_specF {a0 : (List ApiWord)} {y : ApiBlock} (h : po_words a0 = some y) : Spec gP 32 [.full (List.map encApiWord a0)] (.agg [.d (.bool y.Skip), .full (List.map encApiWord y.Words), .d (.str y.Comment)]) := by
  refine specF_mir Tryz.func32 rfl (by kernel_rfl) (by kernel_rfl) (fun y : ApiBlock => .agg [.d (.bool y.Skip), .full (List.map encApiWord y.Words), .d (.str y.Comment)]) ?_ h
  unfold po_words
  simp only [List.replicate, List.length, nS, nA, Tryz.ntmps32, SV]
  refine .seqK (.region fun e h => ?_)
  simp only [seval, SE, zero_31, ENMB]
  refine mU e ?_ h
  refine .seqK (.region fun e h => ?_)
  simp only [seval, SE, zero_31, pl_31, sz_31, ENMB]
  refine mU e ?_ h
  refine .ret fun e h => ?_
  cases h
  simp only [seval, SF, ENMB, Tryz.results32, ag_31, sz_31]

def po_Move (a0 : ApiPos) (a1 : ApiMove) : Option (ApiBlock × Int) :=
  bindO (ip_Valid (ApiPos.mk a0.X a0.Y a0.Z) (ApiMove.mk a1.Kind a1.To a1.Center a1.Rate)) fun (y101 : Int) =>
  if (y101 != 0) = true then
    some (ApiBlock.mk false [] [], y101)
  else
    if (decide (a1.Rate > 1000000000000)) = true then
      some (ApiBlock.mk false [] [], 11)
    else
      bindO (guardO (decide (0 ≤ a1.Kind ∧ a1.Kind < 5)) (
          if (a1.Kind == 0) = true then
            bindO (po_whole 71 0) fun (y102 : ApiWord) =>
            bindO (po_word 88 a1.To.X) fun (y103 : ApiWord) =>
            bindO (po_word 89 a1.To.Y) fun (y104 : ApiWord) =>
            bindO (po_word 90 a1.To.Z) fun (y105 : ApiWord) =>
            bindO (po_words [y102, y103, y104, y105]) fun (y106 : ApiBlock) =>
            some (y106.Skip, y106.Words, y106.Comment)
          else
            if (a1.Kind == 1) = true then
              bindO (po_whole 71 0) fun (y107 : ApiWord) =>
              bindO (po_word 88 a1.To.X) fun (y108 : ApiWord) =>
              bindO (po_word 89 a1.To.Y) fun (y109 : ApiWord) =>
              bindO (po_word 90 a1.To.Z) fun (y110 : ApiWord) =>
              bindO (po_words [y107, y108, y109, y110]) fun (y111 : ApiBlock) =>
              some (y111.Skip, y111.Words, y111.Comment)
            else
              if (a1.Kind == 2) = true then
                bindO (po_whole 71 1) fun (y112 : ApiWord) =>
                bindO (po_word 88 a1.To.X) fun (y113 : ApiWord) =>
                bindO (po_word 89 a1.To.Y) fun (y114 : ApiWord) =>
                bindO (po_word 90 a1.To.Z) fun (y115 : ApiWord) =>
                bindO (po_words [y112, y113, y114, y115]) fun (y116 : ApiBlock) =>
                some (y116.Skip, y116.Words, y116.Comment)
              else
                if (a1.Kind == 3) = true then
                  bindO (po_whole 71 2) fun (y117 : ApiWord) =>
                  bindO (po_word 88 a1.To.X) fun (y118 : ApiWord) =>
                  bindO (po_word 89 a1.To.Y) fun (y119 : ApiWord) =>
                  bindO (po_word 90 a1.To.Z) fun (y120 : ApiWord) =>
                  bindO (po_words [y117, y118, y119, y120]) fun (y121 : ApiBlock) =>
                  some (y121.Skip, y121.Words, y121.Comment)
                else
                  bindO (po_whole 71 3) fun (y122 : ApiWord) =>
                  bindO (po_word 88 a1.To.X) fun (y123 : ApiWord) =>
                  bindO (po_word 89 a1.To.Y) fun (y124 : ApiWord) =>
                  bindO (po_word 90 a1.To.Z) fun (y125 : ApiWord) =>
                  bindO (po_words [y122, y123, y124, y125]) fun (y126 : ApiBlock) =>
                  some (y126.Skip, y126.Words, y126.Comment))) fun (v127 : Bool × (List ApiWord) × (List UInt8)) =>
      if ((a1.Kind == 3) || (a1.Kind == 4)) = true then
        bindO (po_word 73 (IntKind.i64.wrap (a1.Center.X - a0.X))) fun (y128 : ApiWord) =>
        bindO (po_word 74 (IntKind.i64.wrap (a1.Center.Y - a0.Y))) fun (y129 : ApiWord) =>
        guardO (okLen (v127.2.1.length + 2)) (
        if (a1.Kind != 1) = true then
          bindO (po_word 70 a1.Rate) fun (y130 : ApiWord) =>
          guardO (okLen (v127.2.1.length + 2 + 1)) (
          some (ApiBlock.mk v127.1 (v127.2.1 ++ [y128, y129] ++ [y130]) v127.2.2, 0))
        else
          some (ApiBlock.mk v127.1 (v127.2.1 ++ [y128, y129]) v127.2.2, 0))
      else
        if (a1.Kind != 1) = true then
          bindO (po_word 70 a1.Rate) fun (y131 : ApiWord) =>
          guardO (okLen (v127.2.1.length + 1)) (
          some (ApiBlock.mk v127.1 (v127.2.1 ++ [y131]) v127.2.2, 0))
        else
          some (ApiBlock.mk v127.1 v127.2.1 v127.2.2, 0)
set_option maxHeartbeats 8000000 in
theorem po_Move_spec {a0 : ApiPos} {a1 : ApiMove} {y : ApiBlock × Int} (h : po_Move a0 a1 = some y) : Spec gP 10 [.agg [.d (.int .i64 a0.X), .d (.int .i64 a0.Y), .d (.int .i64 a0.Z)], .agg [.d (.int .i64 a1.Kind), .d (.int .i64 a1.To.X), .d (.int .i64 a1.To.Y), .d (.int .i64 a1.To.Z), .d (.int .i64 a1.Center.X), .d (.int .i64 a1.Center.Y), .d (.int .i64 a1.Rate)]] (.tuple [.agg [.d (.bool y.1.Skip), .d (.list (List.map encApiWord y.1.Words)), .d (.str y.1.Comment)], .d (.int .i64 y.2)]) := by
  refine spec_mir Tryz.func10 rfl (by kernel_rfl) (by kernel_rfl) (fun y : ApiBlock × Int => .tuple [.agg [.d (.bool y.1.Skip), .d (.list (List.map encApiWord y.1.Words)), .d (.str y.1.Comment)], .d (.int .i64 y.2)]) ?_ h
  unfold po_Move
  simp only [List.replicate, List.length, nS, nA, Tryz.ntmps10, SV]
  refine .seqK (.region fun e h => ?_)
  simp only [seval, SE, zero_31, ENMB]
  refine mU e ?_ h
  refine .seqK (.seqK (.bind fun y101 hy1 => .region fun e h => ?_))
  simp only [seval, SE, ag_23, sz_23, ag_27, sz_27, ENMB]
  refine SpecS.by (ip_Valid_spec hy1) (by simp only [seval, SF, ENMB]) ?_
  simp only [seval, SE, ENMB]
  refine mU e ?_ h
  refine .seqK (.region fun e h => ?_)
  simp only [seval, SE, ENMB]
  refine mU e ?_ h
  refine .cond rfl (fun hb2 => ?_) (fun hb2 => ?_)
  refine .seqK (.region fun e h => ?_)
  simp only [seval, SE, zero_31, pl_31, sz_31]
  refine mU e ?_ h
  refine .ret fun e h => ?_
  cases h
  simp only [seval, SF, Tryz.results10, ag_31, sz_31]
  refine .skip (Mir.toK (.seqK (.seqK (.region fun e h => ?_))))
  simp only [seval, SE, fld_27_3, sz_2, ag_2, ENMB]
  refine mU e ?_ h
  refine .cond rfl (fun hb3 => ?_) (fun hb3 => ?_)
  refine .seqK (.region fun e h => ?_)
  simp only [seval, SE, zero_31, pl_31, sz_31]
  refine mU e ?_ h
  refine .ret fun e h => ?_
  cases h
  simp only [seval, SF, Tryz.results10, ag_31, sz_31]
  refine .skip (Mir.toK (.seqK (Mir.joinO (fun v127 : Bool × (List ApiWord) × (List UInt8) => (U :: U :: .ptr 0 0 :: .ptr 1 0 :: .ptr 2 0 :: U :: U :: .ptr 3 0 :: us 69)) (fun v127 => ⟨[[.d (.int .i64 a0.X), .d (.int .i64 a0.Y), .d (.int .i64 a0.Z)], [.d (.int .i64 a1.Kind), .d (.int .i64 a1.To.X), .d (.int .i64 a1.To.Y), .d (.int .i64 a1.To.Z), .d (.int .i64 a1.Center.X), .d (.int .i64 a1.Center.Y), .d (.int .i64 a1.Rate)], [.d (.bool false), .nil, .d (.str [])], [.d (.bool v127.1), .full (List.map encApiWord v127.2.1), .d (.str v127.2.2)]], []⟩) (fun _ => rfl) ?_ ?_)))
  refine .guard fun qi4 => .ite (fun hb5 => ?_) (fun hb5 => ?_)
  refine .bind fun y102 hy6 => .bind fun y103 hy7 => .bind fun y104 hy8 => .bind fun y105 hy9 => .bind fun y106 hy10 => .regionD [] (by kernel_rfl) fun e h => ?_
  simp only [seval, SE, SB, fld_27_0, sz_3, ag_3, und_79, (eq_of_beq hb5), sz_2, ag_2, glT, ENMB, hb5]
  refine Spec.by (po_whole_spec hy6) (by simp only [seval, SF, ENMB, hb5]) ?_
  simp only [seval, SE, SB, fld_27_1, sz_23, fld_23_0, sz_2, ag_2, ENMB, hb5]
  refine Spec.by (po_word_spec hy7) (by simp only [seval, SF, ENMB, hb5]) ?_
  simp only [seval, SE, SB, fld_27_1, sz_23, fld_23_1, sz_2, ag_2, ENMB, hb5]
  refine Spec.by (po_word_spec hy8) (by simp only [seval, SF, ENMB, hb5]) ?_
  simp only [seval, SE, SB, fld_27_1, sz_23, fld_23_2, sz_2, ag_2, ENMB, hb5]
  refine Spec.by (po_word_spec hy9) (by simp only [seval, SF, ENMB, hb5]) ?_
  simp only [seval, SE, SB, und_29, sz_77, zero_77, (nr rfl : okLen 8 = true), ENMB, hb5]
  refine Spec.byF (po_words_specF hy10) (by simp only [seval, SF, ENMB, hb5]) ?_
  simp only [seval, SE, SB, zero_31, sz_31, ENMB, hb5]
  cases h
  simp only [seval, SF, ENMB, hb5]
  refine .ite (fun hb11 => ?_) (fun hb11 => ?_)
  refine .bind fun y107 hy12 => .bind fun y108 hy13 => .bind fun y109 hy14 => .bind fun y110 hy15 => .bind fun y111 hy16 => .regionD [] (by kernel_rfl) fun e h => ?_
  simp only [seval, SE, SB, fld_27_0, sz_3, ag_3, und_79, (eq_of_beq hb11), sz_2, ag_2, glT, ENMB, hb5, hb11]
  refine Spec.by (po_whole_spec hy12) (by simp only [seval, SF, ENMB, hb5, hb11]) ?_
  simp only [seval, SE, SB, fld_27_1, sz_23, fld_23_0, sz_2, ag_2, ENMB, hb5, hb11]
  refine Spec.by (po_word_spec hy13) (by simp only [seval, SF, ENMB, hb5, hb11]) ?_
  simp only [seval, SE, SB, fld_27_1, sz_23, fld_23_1, sz_2, ag_2, ENMB, hb5, hb11]
  refine Spec.by (po_word_spec hy14) (by simp only [seval, SF, ENMB, hb5, hb11]) ?_
  simp only [seval, SE, SB, fld_27_1, sz_23, fld_23_2, sz_2, ag_2, ENMB, hb5, hb11]
  refine Spec.by (po_word_spec hy15) (by simp only [seval, SF, ENMB, hb5, hb11]) ?_
  simp only [seval, SE, SB, und_29, sz_77, zero_77, (nr rfl : okLen 8 = true), ENMB, hb5, hb11]
  refine Spec.byF (po_words_specF hy16) (by simp only [seval, SF, ENMB, hb5, hb11]) ?_
  simp only [seval, SE, SB, zero_31, sz_31, ENMB, hb5, hb11]
  cases h
  simp only [seval, SF, ENMB, hb5, hb11]
  refine .ite (fun hb17 => ?_) (fun hb17 => ?_)
  refine .bind fun y112 hy18 => .bind fun y113 hy19 => .bind fun y114 hy20 => .bind fun y115 hy21 => .bind fun y116 hy22 => .regionD [] (by kernel_rfl) fun e h => ?_
  simp only [seval, SE, SB, fld_27_0, sz_3, ag_3, und_79, (eq_of_beq hb17), sz_2, ag_2, glT, ENMB, hb5, hb11, hb17]
  refine Spec.by (po_whole_spec hy18) (by simp only [seval, SF, ENMB, hb5, hb11, hb17]) ?_
  simp only [seval, SE, SB, fld_27_1, sz_23, fld_23_0, sz_2, ag_2, ENMB, hb5, hb11, hb17]
  refine Spec.by (po_word_spec hy19) (by simp only [seval, SF, ENMB, hb5, hb11, hb17]) ?_
  simp only [seval, SE, SB, fld_27_1, sz_23, fld_23_1, sz_2, ag_2, ENMB, hb5, hb11, hb17]
  refine Spec.by (po_word_spec hy20) (by simp only [seval, SF, ENMB, hb5, hb11, hb17]) ?_
  simp only [seval, SE, SB, fld_27_1, sz_23, fld_23_2, sz_2, ag_2, ENMB, hb5, hb11, hb17]
  refine Spec.by (po_word_spec hy21) (by simp only [seval, SF, ENMB, hb5, hb11, hb17]) ?_
  simp only [seval, SE, SB, und_29, sz_77, zero_77, (nr rfl : okLen 8 = true), ENMB, hb5, hb11, hb17]
  refine Spec.byF (po_words_specF hy22) (by simp only [seval, SF, ENMB, hb5, hb11, hb17]) ?_
  simp only [seval, SE, SB, zero_31, sz_31, ENMB, hb5, hb11, hb17]
  cases h
  simp only [seval, SF, ENMB, hb5, hb11, hb17]
  refine .ite (fun hb23 => ?_) (fun hb23 => ?_)
  refine .bind fun y117 hy24 => .bind fun y118 hy25 => .bind fun y119 hy26 => .bind fun y120 hy27 => .bind fun y121 hy28 => .regionD [] (by kernel_rfl) fun e h => ?_
  simp only [seval, SE, SB, fld_27_0, sz_3, ag_3, und_79, (eq_of_beq hb23), sz_2, ag_2, glT, ENMB, hb5, hb11, hb17, hb23]
  refine Spec.by (po_whole_spec hy24) (by simp only [seval, SF, ENMB, hb5, hb11, hb17, hb23]) ?_
  simp only [seval, SE, SB, fld_27_1, sz_23, fld_23_0, sz_2, ag_2, ENMB, hb5, hb11, hb17, hb23]
  refine Spec.by (po_word_spec hy25) (by simp only [seval, SF, ENMB, hb5, hb11, hb17, hb23]) ?_
  simp only [seval, SE, SB, fld_27_1, sz_23, fld_23_1, sz_2, ag_2, ENMB, hb5, hb11, hb17, hb23]
  refine Spec.by (po_word_spec hy26) (by simp only [seval, SF, ENMB, hb5, hb11, hb17, hb23]) ?_
  simp only [seval, SE, SB, fld_27_1, sz_23, fld_23_2, sz_2, ag_2, ENMB, hb5, hb11, hb17, hb23]
  refine Spec.by (po_word_spec hy27) (by simp only [seval, SF, ENMB, hb5, hb11, hb17, hb23]) ?_
  simp only [seval, SE, SB, und_29, sz_77, zero_77, (nr rfl : okLen 8 = true), ENMB, hb5, hb11, hb17, hb23]
  refine Spec.byF (po_words_specF hy28) (by simp only [seval, SF, ENMB, hb5, hb11, hb17, hb23]) ?_
  simp only [seval, SE, SB, zero_31, sz_31, ENMB, hb5, hb11, hb17, hb23]
  cases h
  simp only [seval, SF, ENMB, hb5, hb11, hb17, hb23]
  have hz29 : a1.Kind = 4 := by have h0 := of_decide_eq_true qi4; have h1 := ne_of_beq_false hb5; have h2 := ne_of_beq_false hb11; have h3 := ne_of_beq_false hb17; have h4 := ne_of_beq_false hb23; omega
  refine .bind fun y122 hy30 => .bind fun y123 hy31 => .bind fun y124 hy32 => .bind fun y125 hy33 => .bind fun y126 hy34 => .regionD [] (by kernel_rfl) fun e h => ?_
  simp only [seval, SE, SB, fld_27_0, sz_3, ag_3, und_79, hz29, sz_2, ag_2, glT, ENMB, hb5, hb11, hb17, hb23]
  refine Spec.by (po_whole_spec hy30) (by simp only [seval, SF, ENMB, hb5, hb11, hb17, hb23]) ?_
  simp only [seval, SE, SB, fld_27_1, sz_23, fld_23_0, sz_2, ag_2, ENMB, hb5, hb11, hb17, hb23]
  refine Spec.by (po_word_spec hy31) (by simp only [seval, SF, ENMB, hb5, hb11, hb17, hb23]) ?_
  simp only [seval, SE, SB, fld_27_1, sz_23, fld_23_1, sz_2, ag_2, ENMB, hb5, hb11, hb17, hb23]
  refine Spec.by (po_word_spec hy32) (by simp only [seval, SF, ENMB, hb5, hb11, hb17, hb23]) ?_
  simp only [seval, SE, SB, fld_27_1, sz_23, fld_23_2, sz_2, ag_2, ENMB, hb5, hb11, hb17, hb23]
  refine Spec.by (po_word_spec hy33) (by simp only [seval, SF, ENMB, hb5, hb11, hb17, hb23]) ?_
  simp only [seval, SE, SB, und_29, sz_77, zero_77, (nr rfl : okLen 8 = true), ENMB, hb5, hb11, hb17, hb23]
  refine Spec.byF (po_words_specF hy34) (by simp only [seval, SF, ENMB, hb5, hb11, hb17, hb23]) ?_
  simp only [seval, SE, SB, zero_31, sz_31, ENMB, hb5, hb11, hb17, hb23]
  cases h
  simp only [seval, SF, ENMB, hb5, hb11, hb17, hb23]
  intro v127
  refine Mir.toK (.seqK (.seqK (.joinV (U :: U :: .ptr 0 0 :: .ptr 1 0 :: .ptr 2 0 :: U :: U :: .ptr 3 0 :: U :: U :: U :: U :: U :: U :: U :: U :: U :: U :: U :: U :: U :: U :: U :: U :: U :: U :: U :: U :: U :: U :: U :: U :: U :: U :: U :: U :: U :: U :: U :: U :: U :: U :: U :: U :: U :: .d (.bool ((a1.Kind == 3) || (a1.Kind == 4))) :: us 31) ⟨[[.d (.int .i64 a0.X), .d (.int .i64 a0.Y), .d (.int .i64 a0.Z)], [.d (.int .i64 a1.Kind), .d (.int .i64 a1.To.X), .d (.int .i64 a1.To.Y), .d (.int .i64 a1.To.Z), .d (.int .i64 a1.Center.X), .d (.int .i64 a1.Center.Y), .d (.int .i64 a1.Rate)], [.d (.bool false), .nil, .d (.str [])], [.d (.bool v127.1), .full (List.map encApiWord v127.2.1), .d (.str v127.2.2)]], []⟩ rfl ?_ ?_)))
  refine SWs.region ?_
  rcases Bool.eq_false_or_eq_true (a1.Kind == 3) with hb35 | hb35
  simp only [seval, SE, SL, PB, fld_27_0, sz_3, ag_3, hb35, ENMB]
  simp only [seval, SE, SL, PB, fld_27_0, sz_3, ag_3, hb35, ENMB]
  refine Mir.toK (.cond rfl (fun hb36 => ?_) (fun hb36 => ?_))
  refine .bind fun y128 hy37 => .bind fun y129 hy38 => .guard fun q39 => .regionD [] (by kernel_rfl) fun e h => ?_
  simp only [seval, SE, SB, fld_31_1, sz_29, ag_29, fld_27_2, sz_25, fld_25_0, sz_2, ag_2, fld_23_0, ENMB]
  refine Spec.by (po_word_spec hy37) (by simp only [seval, SF, ENMB]) ?_
  simp only [seval, SE, SB, fld_27_2, sz_25, fld_25_1, sz_2, ag_2, fld_23_1, ENMB]
  refine Spec.by (po_word_spec hy38) (by simp only [seval, SF, ENMB]) ?_
  simp only [seval, SE, SB, und_29, sz_77, zero_77, (nr rfl : okLen 4 = true), app_29, al_ApiWord, q39, fld_31_1, sz_29, ENMB]
  refine mU e ?_ h
  refine .seqK (.seqK (.region fun e h => ?_))
  simp only [seval, SE, fld_27_0, sz_3, ag_3, ENMB]
  refine mU e ?_ h
  refine .cond rfl (fun hb40 => ?_) (fun hb40 => ?_)
  refine .bind fun y130 hy41 => .guard fun q42 => .regionD [] (by kernel_rfl) fun e h => ?_
  simp only [seval, SE, SB, fld_31_1, sz_29, ag_29, fld_27_3, sz_2, ag_2, ENMB]
  refine Spec.by (po_word_spec hy41) (by simp only [seval, SF, ENMB]) ?_
  simp only [seval, SE, SB, und_29, sz_77, zero_77, (nr rfl : okLen 2 = true), app_29, al_ApiWord, xLA, q42, fld_31_1, sz_29, ENMB]
  refine mU e ?_ h
  refine .seqK (.region fun e h => ?_)
  simp only [seval, SE, ag_31, sz_31, ENMB]
  refine mU e ?_ h
  refine .ret fun e h => ?_
  cases h
  simp only [seval, SF, ENMB, Tryz.results10, ag_31, sz_31]
  refine .skip (Mir.toK (.seqK (.region fun e h => ?_)))
  simp only [seval, SE, ag_31, sz_31, ENMB]
  refine mU e ?_ h
  refine .ret fun e h => ?_
  cases h
  simp only [seval, SF, ENMB, Tryz.results10, ag_31, sz_31]
  refine .skip (Mir.toK (.seqK (.seqK (.region fun e h => ?_))))
  simp only [seval, SE, fld_27_0, sz_3, ag_3, ENMB]
  refine mU e ?_ h
  refine .cond rfl (fun hb43 => ?_) (fun hb43 => ?_)
  refine .bind fun y131 hy44 => .guard fun q45 => .regionD [] (by kernel_rfl) fun e h => ?_
  simp only [seval, SE, SB, fld_31_1, sz_29, ag_29, fld_27_3, sz_2, ag_2, ENMB]
  refine Spec.by (po_word_spec hy44) (by simp only [seval, SF, ENMB]) ?_
  simp only [seval, SE, SB, und_29, sz_77, zero_77, (nr rfl : okLen 2 = true), app_29, al_ApiWord, q45, fld_31_1, sz_29, ENMB]
  refine mU e ?_ h
  refine .seqK (.region fun e h => ?_)
  simp only [seval, SE, ag_31, sz_31, ENMB]
  refine mU e ?_ h
  refine .ret fun e h => ?_
  cases h
  simp only [seval, SF, ENMB, Tryz.results10, ag_31, sz_31]
  refine .skip (Mir.toK (.seqK (.region fun e h => ?_)))
  simp only [seval, SE, ag_31, sz_31, ENMB]
  refine mU e ?_ h
  refine .ret fun e h => ?_
  cases h
  simp only [seval, SF, ENMB, Tryz.results10, ag_31, sz_31]

def api_Errno_String (a0 : Int) : Option (List UInt8) :=
  bindO (strconv_Itoa a0) fun (y101 : (List UInt8)) =>
  guardO (okStr [101, 114, 114, 110, 111, 32] y101) (
  some ([101, 114, 114, 110, 111, 32] ++ y101))
theorem api_Errno_String_spec {a0 : Int} {y : (List UInt8)} (h : api_Errno_String a0 = some y) : Spec gP 70 [.d (.int .i64 a0)] (.d (.str y)) := by
  refine spec_mir Tryz.func70 rfl (by kernel_rfl) (by kernel_rfl) (fun y : (List UInt8) => .d (.str y)) ?_ h
  unfold api_Errno_String
  simp only [List.replicate, List.length, nS, nA, Tryz.ntmps70, SV]
  refine .seqK (.region fun e h => ?_)
  simp only [seval, SE]
  refine mU e ?_ h
  refine .seqK (.bind fun y101 hy1 => .guard fun q2 => ?_)
  replace q2 := okStr_ok q2
  try simp only [lm, xNA, xCA, xAN, xLC, xLN, xAC, xAL, nA, Nat.zero_add] at q2
  refine .region fun e h => ?_
  simp only [seval, SE]
  refine SpecS.by (strconv_Itoa_spec hy1) (by simp only [seval, SF]) ?_
  simp only [seval, SE, q2]
  refine mU e ?_ h
  refine .ret fun e h => ?_
  cases h
  simp only [seval, SF, Tryz.results70]

def r41_printable (a0 : Int) : Option Bool :=
  some ((decide (a0 ≥ 32)) && ((decide (a0 ≤ 126)) && ((a0 != 40) && (a0 != 41))))
theorem r41_printable_spec {a0 : Int} {y : Bool} (h : r41_printable a0 = some y) : Spec gP 144 [.d (.int .u8 a0)] (.d (.bool y)) := by
  refine spec_mir Tryz.func144 rfl (by kernel_rfl) (by kernel_rfl) (fun y : Bool => .d (.bool y)) ?_ h
  unfold r41_printable
  simp only [List.replicate, List.length, nS, nA, Tryz.ntmps144, SV]
  refine .seqK (.region fun e h => ?_)
  simp only [seval, SE]
  refine mU e ?_ h
  refine .seqK (.joinV (U :: U :: .d (.bool ((decide (a0 ≥ 32)) && ((decide (a0 ≤ 126)) && ((a0 != 40) && (a0 != 41))))) :: us 14) ⟨[], []⟩ rfl ?_ ?_)
  refine SWs.region ?_
  rcases Bool.eq_false_or_eq_true (decide (a0 ≥ 32)) with hb1 | hb1
  rcases Bool.eq_false_or_eq_true (decide (a0 ≤ 126)) with hb2 | hb2
  rcases Bool.eq_false_or_eq_true (a0 != 40) with hb3 | hb3
  simp only [seval, SE, SL, PB, hb1, hb2, hb3]
  simp only [seval, SE, SL, PB, hb1, hb2, hb3]
  simp only [seval, SE, SL, PB, hb1, hb2]
  simp only [seval, SE, SL, PB, hb1]
  refine Mir.toK (.ret fun e h => ?_)
  cases h
  simp only [seval, SF, Tryz.results144]

def r41_Valid (a0 : ApiBlock) : Option Int :=
  if ((decide ((a0.Words.length : Int) > 16)) || (decide ((a0.Comment.length : Int) > 100))) = true then
    some 1
  else
    bindX (guardO (okIdx a0.Words) (
        rangeX (fun (i127 : Nat) (e129 : ApiWord) (v128 : Unit) =>
          if ((decide (e129.Letter < 65)) || ((decide (e129.Letter > 90)) || ((decide (e129.Value > 1000000000000)) || (decide (e129.Value < (-1000000000000)))))) = true then
            some (.ret (.ret 1))
          else
            some (.go ())) (fun (v128 : Unit) => some (.go ())) a0.Words 0 ())) fun (v115 : Unit) =>
    bindX (guardO (okIdx a0.Comment) (
        rangeX (fun (i170 : Nat) (c172 : UInt8) (v171 : Unit) =>
          bindO (r41_printable (c172.toNat : Int)) fun (y174 : Bool) =>
          if (!y174) = true then
            some (.ret (.ret 1))
          else
            some (.go ())) (fun (v171 : Unit) => some (.go ())) a0.Comment 0 ())) fun (v152 : Unit) =>
    some 0
theorem r41_Valid_spec {a0 : ApiBlock} {y : Int} (h : r41_Valid a0 = some y) : Spec gP 119 [.agg [.d (.bool a0.Skip), .d (.list (List.map encApiWord a0.Words)), .d (.str a0.Comment)]] (.d (.int .i64 y)) := by
  refine spec_mir Tryz.func119 rfl (by kernel_rfl) (by kernel_rfl) (fun y : Int => .d (.int .i64 y)) ?_ h
  unfold r41_Valid
  simp only [List.replicate, List.length, nS, nA, Tryz.ntmps119, SV]
  refine .seqK (.region fun e h => ?_)
  simp only [seval, SE, ENMB]
  refine mU e ?_ h
  refine .seqK (.seqK (.joinV (U :: .ptr 0 0 :: U :: U :: U :: U :: U :: U :: U :: U :: U :: U :: U :: U :: U :: .d (.bool ((decide ((a0.Words.length : Int) > 16)) || (decide ((a0.Comment.length : Int) > 100)))) :: us 43) ⟨[[.d (.bool a0.Skip), .d (.list (List.map encApiWord a0.Words)), .d (.str a0.Comment)]], []⟩ rfl ?_ ?_))
  refine SWs.region ?_
  rcases Bool.eq_false_or_eq_true (decide ((a0.Words.length : Int) > 16)) with hb1 | hb1
  simp only [seval, SE, SL, PB, fld_31_1, sz_29, ag_29, und_29, hb1, ENMB]
  simp only [seval, SE, SL, PB, fld_31_1, sz_29, ag_29, und_29, fld_31_2, sz_9, ag_9, und_9, hb1, ENMB]
  refine Mir.toK (.cond rfl (fun hb3 => ?_) (fun hb3 => ?_))
  refine .seqK (.region fun e h => ?_)
  simp only [seval, SE, ENMB]
  refine mU e ?_ h
  refine .ret fun e h => ?_
  cases h
  simp only [seval, SF, ENMB, Tryz.results119]
  refine .skip (Mir.toK (.seqK (.seqK (.region fun e h => ?_))))
  simp only [seval, SE, ENMB]
  refine mU e ?_ h
  refine Mir.join (fun v115 : Unit => (U :: .ptr 0 0 :: us 57)) (fun v115 => ⟨[[.d (.bool a0.Skip), .d (.list (List.map encApiWord a0.Words)), .d (.str a0.Comment)]], []⟩) (fun _ => rfl) ?_ ?_
  refine .block (.guard fun qg96 => Mir.range (fun (i127 : Nat) (v128 : Unit) => (U :: .ptr 0 0 :: U :: .d (.int .i64 (i127 : Int)) :: us 55)) (fun i127 v128 => ⟨[[.d (.bool a0.Skip), .d (.list (List.map encApiWord a0.Words)), .d (.str a0.Comment)]], []⟩) qg96 (fun _ _ => rfl) (by simp only [seval, SF, ENMB, (nr rfl : ((0 : Nat) : Int) = 0)]) (by simp only [seval, SF, ENMB, (nr rfl : ((0 : Nat) : Int) = 0)]) ?_ ?_)
  intro i127 e129 v128 qr94
  refine .seqK (.seqK (.region fun e h => ?_))
  simp only [seval, SE, fld_31_1, sz_29, ag_29, und_29, qr94, ENMB]
  refine mU e ?_ h
  refine .condT rfl (.skip (Mir.toK (.seqK (.block (.seqK (.region fun e h => ?_))))))
  simp only [seval, SE, fld_31_1, sz_29, ag_29, und_29, sz_77, qr94, Int.toNat_natCast, ag_77, zero_77, ENMB]
  refine mU e ?_ h
  refine .seqK (.joinV (U :: .ptr 0 0 :: U :: .d (.int .i64 (i127 : Int)) :: U :: U :: U :: U :: U :: U :: U :: U :: U :: U :: U :: U :: U :: U :: U :: U :: U :: U :: U :: U :: U :: U :: U :: U :: U :: U :: U :: U :: U :: U :: U :: U :: U :: U :: U :: U :: U :: U :: U :: U :: U :: .d (.bool ((decide (e129.Letter < 65)) || ((decide (e129.Letter > 90)) || ((decide (e129.Value > 1000000000000)) || (decide (e129.Value < (-1000000000000))))))) :: us 13) ⟨[[.d (.bool a0.Skip), .d (.list (List.map encApiWord a0.Words)), .d (.str a0.Comment)], [.d (.int .u8 e129.Letter), .d (.int .i64 e129.Value)]], []⟩ rfl ?_ ?_)
  refine SWs.region ?_
  rcases Bool.eq_false_or_eq_true (decide (e129.Letter < 65)) with hb101 | hb101
  simp only [seval, SE, SL, PB, fld_77_0, sz_5, ag_5, hb101, ENMB]
  rcases Bool.eq_false_or_eq_true (decide (e129.Letter > 90)) with hb102 | hb102
  simp only [seval, SE, SL, PB, fld_77_0, sz_5, ag_5, hb101, hb102, ENMB]
  rcases Bool.eq_false_or_eq_true (decide (e129.Value > 1000000000000)) with hb103 | hb103
  simp only [seval, SE, SL, PB, fld_77_0, sz_5, ag_5, fld_77_1, sz_2, ag_2, hb101, hb102, hb103, ENMB]
  simp only [seval, SE, SL, PB, fld_77_0, sz_5, ag_5, fld_77_1, sz_2, ag_2, hb101, hb102, hb103, ENMB]
  refine Mir.toK (.cond rfl (fun hb105 => ?_) (fun hb105 => ?_))
  refine .seqK (.region fun e h => ?_)
  simp only [seval, SE, ENMB]
  refine mU e ?_ h
  refine .ret fun e h => ?_
  cases h
  simp only [seval, SF, ENMB, Tryz.results119]
  refine .skip (Mir.toB (Mir.toK (.region fun e h => ?_)))
  simp only [seval, SE, ENMB]
  cases h
  simp only [seval, SF, ENMB, Tryz.results119, qr94]
  intro v128 qd95
  refine .seqK (.seqK (.region fun e h => ?_))
  simp only [seval, SE, fld_31_1, sz_29, ag_29, und_29, qd95, ENMB]
  refine mU e ?_ h
  refine .condF rfl (.exit fun e h => ?_)
  cases h
  simp only [seval, SF, ENMB, Tryz.results119]
  intro v115
  refine Mir.toK (.seqK (.seqK (.region fun e h => ?_)))
  simp only [seval, SE, ENMB]
  refine mU e ?_ h
  refine Mir.join (fun v152 : Unit => (us 59)) (fun v152 => ⟨[[.d (.bool a0.Skip), .d (.list (List.map encApiWord a0.Words)), .d (.str a0.Comment)]], []⟩) (fun _ => rfl) ?_ ?_
  refine .block (.guard fun qg170 => Mir.range (fun (i170 : Nat) (v171 : Unit) => (U :: .ptr 0 0 :: U :: U :: U :: .d (.int .i64 (i170 : Int)) :: us 53)) (fun i170 v171 => ⟨[[.d (.bool a0.Skip), .d (.list (List.map encApiWord a0.Words)), .d (.str a0.Comment)]], []⟩) qg170 (fun _ _ => rfl) (by simp only [seval, SF, ENMB, (nr rfl : ((0 : Nat) : Int) = 0)]) (by simp only [seval, SF, ENMB, (nr rfl : ((0 : Nat) : Int) = 0)]) ?_ ?_)
  intro i170 c172 v171 qr168
  refine .seqK (.seqK (.region fun e h => ?_))
  simp only [seval, SE, fld_31_2, sz_9, ag_9, und_9, qr168, ENMB]
  refine mU e ?_ h
  refine .condT rfl (.skip (Mir.toK (.seqK (.block (.seqK (.bind fun y174 hy173 => .region fun e h => ?_))))))
  simp only [seval, SE, fld_31_2, sz_9, ag_9, und_9, Int.toNat_natCast, qr168, ENMB]
  refine SpecS.by (r41_printable_spec hy173) (by simp only [seval, SF, ENMB]) ?_
  simp only [seval, SE, ENMB]
  refine mU e ?_ h
  refine .cond rfl (fun hb175 => ?_) (fun hb175 => ?_)
  refine .seqK (.region fun e h => ?_)
  simp only [seval, SE, ENMB]
  refine mU e ?_ h
  refine .ret fun e h => ?_
  cases h
  simp only [seval, SF, ENMB, Tryz.results119]
  refine .skip (Mir.toB (Mir.toK (.region fun e h => ?_)))
  simp only [seval, SE, ENMB]
  cases h
  simp only [seval, SF, ENMB, Tryz.results119, qr168]
  intro v171 qd169
  refine .seqK (.seqK (.region fun e h => ?_))
  simp only [seval, SE, fld_31_2, sz_9, ag_9, und_9, qd169, ENMB]
  refine mU e ?_ h
  refine .condF rfl (.exit fun e h => ?_)
  cases h
  simp only [seval, SF, ENMB, Tryz.results119]
  intro v152
  refine Mir.toK (.seqK (.region fun e h => ?_))
  simp only [seval, SE, ENMB]
  refine mU e ?_ h
  refine .ret fun e h => ?_
  cases h
  simp only [seval, SF, ENMB, Tryz.results119]

def r41_digits (a0 : Int) : Option (List UInt8) :=
  bindO (loopX (fun (v113 : Int × (List UInt8)) =>
        if ((decide (v113.1 > 0)) || (v113.2 == [])) = true then
          guardO (okStr (runeS (IntKind.i32.wrap (IntKind.u64.wrap (48 + (Int.tmod v113.1 10))))) v113.2) (
          some (.go (IntKind.u64.wrap (Int.tdiv v113.1 10), (runeS (IntKind.i32.wrap (IntKind.u64.wrap (48 + (Int.tmod v113.1 10))))) ++ v113.2)))
        else
          some (.ret v113.2)) fuel (a0, [])) fun (v107 : (List UInt8)) =>
  some v107
theorem r41_digits_spec {a0 : Int} {y : (List UInt8)} (h : r41_digits a0 = some y) : Spec gP 163 [.d (.int .u64 a0)] (.d (.str y)) := by
  refine spec_mir Tryz.func163 rfl (by kernel_rfl) (by kernel_rfl) (fun y : (List UInt8) => .d (.str y)) ?_ h
  unfold r41_digits
  simp only [List.replicate, List.length, nS, nA, Tryz.ntmps163, SV]
  refine .seqK (.region fun e h => ?_)
  simp only [seval, SE]
  refine mU e ?_ h
  refine .seqK (.region fun e h => ?_)
  simp only [seval, SE]
  refine mU e ?_ h
  refine .seqK (Mir.joinO (fun v107 : (List UInt8) => (U :: U :: U :: .d (.str v107) :: us 16)) (fun v107 => ⟨[], []⟩) (fun _ => rfl) ?_ ?_)
  refine .block (Mir.loop (fun v113 : Int × (List UInt8) => (.d (.int .u64 v113.1) :: U :: U :: .d (.str v113.2) :: us 16)) (fun v113 => ⟨[], []⟩) (fun _ => rfl) (by simp only [seval, SF]) (by simp only [seval, SF]) fun v113 => .seqK (.seqK (.joinV (.d (.int .u64 v113.1) :: U :: U :: .d (.str v113.2) :: U :: U :: U :: U :: U :: .d (.bool ((decide (v113.1 > 0)) || (v113.2 == []))) :: us 10) ⟨[], []⟩ rfl ?_ ?_)))
  refine SWs.region ?_
  rcases Bool.eq_false_or_eq_true (decide (v113.1 > 0)) with hb25 | hb25
  simp only [seval, SE, SL, PB, hb25]
  simp only [seval, SE, SL, PB, hb25]
  refine Mir.toK (.cond rfl (fun hb27 => ?_) (fun hb27 => ?_))
  refine .skip (Mir.toK (.block (.seqK (.guard fun q28 => ?_))))
  replace q28 := okStr_ok q28
  refine .region fun e h => ?_
  simp only [seval, SE, und_123, und_21, und_9, rune_enc, q28]
  refine mU e ?_ h
  refine .region fun e h => ?_
  simp only [seval, SE]
  cases h
  simp only [seval, SF, Tryz.results163]
  refine .exit fun e h => ?_
  cases h
  simp only [seval, SF, Tryz.results163]
  intro v107
  refine Mir.toK (.seqK (.region fun e h => ?_))
  simp only [seval, SE]
  refine mU e ?_ h
  refine .ret fun e h => ?_
  cases h
  simp only [seval, SF, Tryz.results163]

def r41_Text (a0 : Int) : Option (List UInt8) :=
  bindO (if (decide (a0 < 0)) = true then
        some ([45], IntKind.u64.wrap (0 - (IntKind.u64.wrap a0)))
      else
        some ([], IntKind.u64.wrap a0)) fun (v101 : (List UInt8) × Int) =>
  bindO (r41_digits (IntKind.u64.wrap (Int.tdiv v101.2 1000))) fun (y102 : (List UInt8)) =>
  guardO (okStr v101.1 y102) (
  bindO (if (decide ((Int.tmod v101.2 1000) > 0)) = true then
        bindO (r41_digits (IntKind.u64.wrap (1000 + (Int.tmod v101.2 1000)))) fun (y135 : (List UInt8)) =>
        bindO (cutF y135 1) fun (s136 : (List UInt8)) =>
        bindO (loopX (fun (v163 : (List UInt8)) =>
              bindO (gt v163 (IntKind.i64.wrap ((v163.length : Int) - 1))) fun (c164 : UInt8) =>
              if ((c164.toNat : Int) == 48) = true then
                bindO (cutT v163 (IntKind.i64.wrap ((v163.length : Int) - 1))) fun (s165 : (List UInt8)) =>
                some (.go s165)
              else
                some (.ret v163)) fuel s136) fun (v151 : (List UInt8)) =>
        guardO (okStr (v101.1 ++ y102) [46]) (
        guardO (okStr ((v101.1 ++ y102) ++ [46]) v151) (
        some (((v101.1 ++ y102) ++ [46]) ++ v151)))
      else
        some (v101.1 ++ y102)) fun (v134 : (List UInt8)) =>
  some v134)
theorem r41_Text_spec {a0 : Int} {y : (List UInt8)} (h : r41_Text a0 = some y) : Spec gP 145 [.d (.int .i64 a0)] (.d (.str y)) := by
  refine spec_mir Tryz.func145 rfl (by kernel_rfl) (by kernel_rfl) (fun y : (List UInt8) => .d (.str y)) ?_ h
  unfold r41_Text
  simp only [List.replicate, List.length, nS, nA, Tryz.ntmps145, SV]
  refine .seqK (.region fun e h => ?_)
  simp only [seval, SE]
  refine mU e ?_ h
  refine .seqK (.region fun e h => ?_)
  simp only [seval, SE, und_2, und_123]
  refine mU e ?_ h
  refine .seqK (.seqK (.region fun e h => ?_))
  simp only [seval, SE]
  refine mU e ?_ h
  refine Mir.joinO (fun v101 : (List UInt8) × Int => (U :: U :: U :: .d (.str v101.1) :: .d (.int .u64 v101.2) :: us 38)) (fun v101 => ⟨[], []⟩) (fun _ => rfl) ?_ ?_
  refine .cond rfl (fun hb2 => ?_) (fun hb2 => ?_)
  refine .region fun e h => ?_
  simp only [seval, SE]
  cases h
  simp only [seval, SF, Tryz.results145]
  refine .skip fun e h => ?_
  cases h
  simp only [seval, SF, Tryz.results145]
  intro v101
  refine Mir.toK (.seqK (.bind fun y102 hy3 => .guard fun q4 => ?_))
  replace q4 := okStr_ok q4
  refine .region fun e h => ?_
  simp only [seval, SE]
  refine SpecS.by (r41_digits_spec hy3) (by simp only [seval, SF]) ?_
  simp only [seval, SE, q4]
  refine mU e ?_ h
  refine .seqK (.region fun e h => ?_)
  simp only [seval, SE]
  refine mU e ?_ h
  refine .seqK (.seqK (.region fun e h => ?_))
  simp only [seval, SE]
  refine mU e ?_ h
  refine Mir.joinO (fun v134 : (List UInt8) => (U :: U :: U :: U :: U :: .d (.str v134) :: us 37)) (fun v134 => ⟨[], []⟩) (fun _ => rfl) ?_ ?_
  refine .cond rfl (fun hb38 => ?_) (fun hb38 => ?_)
  refine .seqK (.bind fun y135 hy39 => .bind fun s136 q40 => ?_)
  replace q40 := cutF_ok q40
  simp only [Int.reduceToNat, Int.reduceLT, Nat.sub_zero, dp0] at q40
  refine .region fun e h => ?_
  simp only [seval, SE]
  refine SpecS.by (r41_digits_spec hy39) (by simp only [seval, SF]) ?_
  simp only [seval, SE, und_9, q40, Nat.le_refl, and_true, true_and, dm, tm]
  refine mU e ?_ h
  refine .seqK (Mir.joinO (fun v151 : (List UInt8) => (U :: U :: U :: U :: U :: .d (.str (v101.1 ++ y102)) :: U :: .d (.str v151) :: us 35)) (fun v151 => ⟨[], []⟩) (fun _ => rfl) ?_ ?_)
  refine .block (Mir.loop (fun v163 : (List UInt8) => (U :: U :: U :: U :: U :: .d (.str (v101.1 ++ y102)) :: U :: .d (.str v163) :: us 35)) (fun v163 => ⟨[], []⟩) (fun _ => rfl) (by simp only [seval, SF]) (by simp only [seval, SF]) fun v163 => .seqK (.seqK (.bind fun c164 q65 => ?_)))
  replace q65 := gt_ok q65
  refine .region fun e h => ?_
  simp only [seval, SE, und_9, q65]
  refine mU e ?_ h
  refine .cond rfl (fun hb67 => ?_) (fun hb67 => ?_)
  refine .skip (Mir.toK (.block (.bind fun s165 q68 => ?_)))
  replace q68 := cutT_ok q68
  refine .region fun e h => ?_
  simp only [seval, SE, und_9, q68, Nat.le_refl, and_true, true_and, dm, tm]
  cases h
  simp only [seval, SF, Tryz.results145]
  refine .exit fun e h => ?_
  cases h
  simp only [seval, SF, Tryz.results145]
  intro v151
  refine Mir.toK (.guard fun q69 => ?_)
  replace q69 := okStr_ok q69
  try simp only [lm, xNA, xCA, xAN, xLC, xLN, xAC, xAL, nA, Nat.zero_add] at q69
  refine .guard fun q70 => ?_
  replace q70 := okStr_ok q70
  try simp only [lm, xNA, xCA, xAN, xLC, xLN, xAC, xAL, nA, Nat.zero_add] at q70
  refine .region fun e h => ?_
  simp only [seval, SE, q69, q70]
  cases h
  simp only [seval, SF, Tryz.results145]
  refine .skip fun e h => ?_
  cases h
  simp only [seval, SF, Tryz.results145]
  intro v134
  refine Mir.toK (.seqK (.region fun e h => ?_))
  simp only [seval, SE]
  refine mU e ?_ h
  refine .ret fun e h => ?_
  cases h
  simp only [seval, SF, Tryz.results145]

def r41_Word (a0 : ApiWord) : Option (List UInt8) :=
  bindO (r41_Text a0.Value) fun (y101 : (List UInt8)) =>
  guardO (okStr (runeS (IntKind.i32.wrap a0.Letter)) y101) (
  some ((runeS (IntKind.i32.wrap a0.Letter)) ++ y101))
theorem r41_Word_spec {a0 : ApiWord} {y : (List UInt8)} (h : r41_Word a0 = some y) : Spec gP 120 [.agg [.d (.int .u8 a0.Letter), .d (.int .i64 a0.Value)]] (.d (.str y)) := by
  refine spec_mir Tryz.func120 rfl (by kernel_rfl) (by kernel_rfl) (fun y : (List UInt8) => .d (.str y)) ?_ h
  unfold r41_Word
  simp only [List.replicate, List.length, nS, nA, Tryz.ntmps120, SV]
  refine .seqK (.region fun e h => ?_)
  simp only [seval, SE]
  refine mU e ?_ h
  refine .seqK (.bind fun y101 hy1 => .guard fun q2 => ?_)
  replace q2 := okStr_ok q2
  refine .regionD [] (by kernel_rfl) fun e h => ?_
  simp only [seval, SE, SB, fld_77_0, sz_5, ag_5, und_5, und_21, und_9, rune_enc, fld_77_1, sz_2, ag_2]
  refine Spec.by (r41_Text_spec hy1) (by simp only [seval, SF]) ?_
  simp only [seval, SE, SB, q2]
  refine mU e ?_ h
  refine .ret fun e h => ?_
  cases h
  simp only [seval, SF, Tryz.results120]

def r41_Format (a0 : ApiBlock) : Option ((List UInt8) × Int) :=
  bindO (r41_Valid a0) fun (y101 : Int) =>
  if (y101 != 0) = true then
    some ([], y101)
  else
    bindO (guardO (okIdx a0.Words) (
        rangeX (fun (i152 : Nat) (e154 : ApiWord) (v153 : (List UInt8)) =>
          bindO (if (decide ((i152 : Int) > 0)) = true then
                guardO (okStr v153 [32]) (
                some (v153 ++ [32]))
              else
                some v153) fun (v157 : (List UInt8)) =>
          bindO (r41_Word e154) fun (y158 : (List UInt8)) =>
          guardO (okStr v157 y158) (
          some (.go (v157 ++ y158)))) (fun (v153 : (List UInt8)) => some v153) a0.Words 0 [])) fun (v130 : (List UInt8)) =>
    bindO (if (!(a0.Comment == [])) = true then
          bindO (if (!(v130 == [])) = true then
                guardO (okStr v130 [32]) (
                some (v130 ++ [32]))
              else
                some v130) fun (v161 : (List UInt8)) =>
          guardO (okStr v161 [40]) (
          guardO (okStr (v161 ++ [40]) a0.Comment) (
          guardO (okStr ((v161 ++ [40]) ++ a0.Comment) [41]) (
          some (((v161 ++ [40]) ++ a0.Comment) ++ [41]))))
        else
          some v130) fun (v160 : (List UInt8)) =>
    bindO (if a0.Skip = true then
          guardO (okStr [47] v160) (
          some ([47] ++ v160))
        else
          some v160) fun (v162 : (List UInt8)) =>
    some (v162, 0)
set_option maxHeartbeats 8000000 in
theorem r41_Format_spec {a0 : ApiBlock} {y : (List UInt8) × Int} (h : r41_Format a0 = some y) : Spec gP 71 [.agg [.d (.bool a0.Skip), .d (.list (List.map encApiWord a0.Words)), .d (.str a0.Comment)]] (.tuple [.d (.str y.1), .d (.int .i64 y.2)]) := by
  refine spec_mir Tryz.func71 rfl (by kernel_rfl) (by kernel_rfl) (fun y : (List UInt8) × Int => .tuple [.d (.str y.1), .d (.int .i64 y.2)]) ?_ h
  unfold r41_Format
  simp only [List.replicate, List.length, nS, nA, Tryz.ntmps71, SV]
  refine .seqK (.region fun e h => ?_)
  simp only [seval, SE, ENMB]
  refine mU e ?_ h
  refine .seqK (.seqK (.bind fun y101 hy1 => .region fun e h => ?_))
  simp only [seval, SE, ag_31, sz_31, ENMB]
  refine SpecS.by (r41_Valid_spec hy1) (by simp only [seval, SF, ENMB]) ?_
  simp only [seval, SE, ENMB]
  refine mU e ?_ h
  refine .seqK (.region fun e h => ?_)
  simp only [seval, SE, ENMB]
  refine mU e ?_ h
  refine .cond rfl (fun hb3 => ?_) (fun hb3 => ?_)
  refine .seqK (.region fun e h => ?_)
  simp only [seval, SE, ENMB]
  refine mU e ?_ h
  refine .ret fun e h => ?_
  cases h
  simp only [seval, SF, ENMB, Tryz.results71]
  refine .skip (Mir.toK (.seqK (.region fun e h => ?_)))
  simp only [seval, SE, ENMB]
  refine mU e ?_ h
  refine .seqK (.seqK (.region fun e h => ?_))
  simp only [seval, SE, ENMB]
  refine mU e ?_ h
  refine Mir.joinO (fun v130 : (List UInt8) => (U :: .ptr 0 0 :: U :: U :: U :: .d (.str v130) :: us 43)) (fun v130 => ⟨[[.d (.bool a0.Skip), .d (.list (List.map encApiWord a0.Words)), .d (.str a0.Comment)]], []⟩) (fun _ => rfl) ?_ ?_
  refine .block (.guard fun qg101 => Mir.range (fun (i152 : Nat) (v153 : (List UInt8)) => (U :: .ptr 0 0 :: U :: U :: U :: .d (.str v153) :: .d (.int .i64 (i152 : Int)) :: us 42)) (fun i152 v153 => ⟨[[.d (.bool a0.Skip), .d (.list (List.map encApiWord a0.Words)), .d (.str a0.Comment)]], []⟩) qg101 (fun _ _ => rfl) (by simp only [seval, SF, ENMB, (nr rfl : ((0 : Nat) : Int) = 0)]) (by simp only [seval, SF, ENMB, (nr rfl : ((0 : Nat) : Int) = 0)]) ?_ ?_)
  intro i152 e154 v153 qr99
  refine .seqK (.seqK (.region fun e h => ?_))
  simp only [seval, SE, fld_31_1, sz_29, ag_29, und_29, qr99, ENMB]
  refine mU e ?_ h
  refine .condT rfl (.skip (Mir.toK (.seqK (.block (.seqK (.seqK (.region fun e h => ?_)))))))
  simp only [seval, SE, ENMB]
  refine mU e ?_ h
  refine Mir.joinO (fun v157 : (List UInt8) => (U :: .ptr 0 0 :: U :: U :: U :: .d (.str v157) :: .d (.int .i64 (i152 : Int)) :: us 42)) (fun v157 => ⟨[[.d (.bool a0.Skip), .d (.list (List.map encApiWord a0.Words)), .d (.str a0.Comment)]], []⟩) (fun _ => rfl) ?_ ?_
  refine .cond rfl (fun hb110 => ?_) (fun hb110 => ?_)
  refine .guard fun q111 => ?_
  replace q111 := okStr_ok q111
  try simp only [lm, xNA, xCA, xAN, xLC, xLN, xAC, xAL, nA, Nat.zero_add] at q111
  refine .region fun e h => ?_
  simp only [seval, SE, q111, ENMB]
  cases h
  simp only [seval, SF, ENMB, Tryz.results71]
  refine .skip fun e h => ?_
  cases h
  simp only [seval, SF, ENMB, Tryz.results71]
  intro v157
  refine Mir.toK (.bind fun y158 hy112 => .guard fun q113 => ?_)
  replace q113 := okStr_ok q113
  refine .region fun e h => ?_
  simp only [seval, SE, fld_31_1, sz_29, ag_29, und_29, sz_77, qr99, Int.toNat_natCast, ag_77, ENMB]
  refine SpecS.by (r41_Word_spec hy112) (by simp only [seval, SF, ENMB]) ?_
  simp only [seval, SE, q113, ENMB]
  refine mU e ?_ h
  refine .region fun e h => ?_
  simp only [seval, SE, ENMB]
  cases h
  simp only [seval, SF, ENMB, Tryz.results71, qr99]
  intro v153 qd100
  refine .seqK (.seqK (.region fun e h => ?_))
  simp only [seval, SE, fld_31_1, sz_29, ag_29, und_29, qd100, ENMB]
  refine mU e ?_ h
  refine .condF rfl (.exit fun e h => ?_)
  cases h
  simp only [seval, SF, ENMB, Tryz.results71]
  intro v130
  refine Mir.toK (.seqK (.seqK (.region fun e h => ?_)))
  simp only [seval, SE, fld_31_2, sz_9, ag_9, ENMB]
  refine mU e ?_ h
  refine Mir.joinO (fun v160 : (List UInt8) => (U :: .ptr 0 0 :: U :: U :: U :: .d (.str v160) :: us 43)) (fun v160 => ⟨[[.d (.bool a0.Skip), .d (.list (List.map encApiWord a0.Words)), .d (.str a0.Comment)]], []⟩) (fun _ => rfl) ?_ ?_
  refine .cond rfl (fun hb122 => ?_) (fun hb122 => ?_)
  refine .seqK (.seqK (.region fun e h => ?_))
  simp only [seval, SE, ENMB]
  refine mU e ?_ h
  refine Mir.joinO (fun v161 : (List UInt8) => (U :: .ptr 0 0 :: U :: U :: U :: .d (.str v161) :: us 43)) (fun v161 => ⟨[[.d (.bool a0.Skip), .d (.list (List.map encApiWord a0.Words)), .d (.str a0.Comment)]], []⟩) (fun _ => rfl) ?_ ?_
  refine .cond rfl (fun hb125 => ?_) (fun hb125 => ?_)
  refine .guard fun q126 => ?_
  replace q126 := okStr_ok q126
  try simp only [lm, xNA, xCA, xAN, xLC, xLN, xAC, xAL, nA, Nat.zero_add] at q126
  refine .region fun e h => ?_
  simp only [seval, SE, q126, ENMB]
  cases h
  simp only [seval, SF, ENMB, Tryz.results71]
  refine .skip fun e h => ?_
  cases h
  simp only [seval, SF, ENMB, Tryz.results71]
  intro v161
  refine Mir.toK (.guard fun q127 => ?_)
  replace q127 := okStr_ok q127
  try simp only [lm, xNA, xCA, xAN, xLC, xLN, xAC, xAL, nA, Nat.zero_add] at q127
  refine .guard fun q128 => ?_
  replace q128 := okStr_ok q128
  try simp only [lm, xNA, xCA, xAN, xLC, xLN, xAC, xAL, nA, Nat.zero_add] at q128
  refine .guard fun q129 => ?_
  replace q129 := okStr_ok q129
  try simp only [lm, xNA, xCA, xAN, xLC, xLN, xAC, xAL, nA, Nat.zero_add] at q129
  refine .region fun e h => ?_
  simp only [seval, SE, q127, fld_31_2, sz_9, ag_9, q128, q129, ENMB]
  cases h
  simp only [seval, SF, ENMB, Tryz.results71]
  refine .skip fun e h => ?_
  cases h
  simp only [seval, SF, ENMB, Tryz.results71]
  intro v160
  refine Mir.toK (.seqK (.seqK (.region fun e h => ?_)))
  simp only [seval, SE, fld_31_0, sz_4, ag_4, ENMB]
  refine mU e ?_ h
  refine Mir.joinO (fun v162 : (List UInt8) => (U :: U :: U :: U :: U :: .d (.str v162) :: us 43)) (fun v162 => ⟨[[.d (.bool a0.Skip), .d (.list (List.map encApiWord a0.Words)), .d (.str a0.Comment)]], []⟩) (fun _ => rfl) ?_ ?_
  refine .cond rfl (fun hb132 => ?_) (fun hb132 => ?_)
  refine .guard fun q133 => ?_
  replace q133 := okStr_ok q133
  try simp only [lm, xNA, xCA, xAN, xLC, xLN, xAC, xAL, nA, Nat.zero_add] at q133
  refine .region fun e h => ?_
  simp only [seval, SE, q133, ENMB]
  cases h
  simp only [seval, SF, ENMB, Tryz.results71]
  refine .skip fun e h => ?_
  cases h
  simp only [seval, SF, ENMB, Tryz.results71]
  intro v162
  refine Mir.toK (.seqK (.region fun e h => ?_))
  simp only [seval, SE, ENMB]
  refine mU e ?_ h
  refine .ret fun e h => ?_
  cases h
  simp only [seval, SF, ENMB, Tryz.results71]

def l46_text (a0 : ApiBlock) (a1 : Int) : Option (List UInt8) :=
  if (a1 != 0) = true then
    bindO (api_Errno_String a1) fun (y102 : (List UInt8)) =>
    some y102
  else
    bindO (r41_Format (ApiBlock.mk a0.Skip a0.Words a0.Comment)) fun (y103 : (List UInt8) × Int) =>
    some y103.1
theorem l46_text_spec {a0 : ApiBlock} {a1 : Int} {y : (List UInt8)} (h : l46_text a0 a1 = some y) : Spec gP 30 [.agg [.d (.bool a0.Skip), .d (.list (List.map encApiWord a0.Words)), .d (.str a0.Comment)], .d (.int .i64 a1)] (.d (.str y)) := by
  refine spec_mir Tryz.func30 rfl (by kernel_rfl) (by kernel_rfl) (fun y : (List UInt8) => .d (.str y)) ?_ h
  unfold l46_text
  simp only [List.replicate, List.length, nS, nA, Tryz.ntmps30, SV]
  refine .seqK (.region fun e h => ?_)
  simp only [seval, SE, ENMB]
  refine mU e ?_ h
  refine .seqK (.seqK (.region fun e h => ?_))
  simp only [seval, SE, ENMB]
  refine mU e ?_ h
  refine .cond rfl (fun hb3 => ?_) (fun hb3 => ?_)
  refine .seqK (.bind fun y102 hy4 => .region fun e h => ?_)
  simp only [seval, SE, ENMB]
  refine SpecS.by (api_Errno_String_spec hy4) (by simp only [seval, SF, ENMB]) ?_
  simp only [seval, SE, ENMB]
  refine mU e ?_ h
  refine .ret fun e h => ?_
  cases h
  simp only [seval, SF, ENMB, Tryz.results30]
  refine .skip (Mir.toK (.seqK (.bind fun y103 hy5 => .region fun e h => ?_)))
  simp only [seval, SE, ag_31, sz_31, ENMB]
  refine SpecS.by (r41_Format_spec hy5) (by simp only [seval, SF, ENMB]) ?_
  simp only [seval, SE, ENMB]
  refine mU e ?_ h
  refine .seqK (.region fun e h => ?_)
  simp only [seval, SE, ENMB]
  refine mU e ?_ h
  refine .ret fun e h => ?_
  cases h
  simp only [seval, SF, ENMB, Tryz.results30]

def po_Change (a0 : Int) : Option ((List ApiBlock) × Int) :=
  if ((decide (a0 < 1)) || (decide (a0 > 999))) = true then
    some ([], 1)
  else
    bindO (po_whole 84 a0) fun (y101 : ApiWord) =>
    bindO (po_whole 77 6) fun (y102 : ApiWord) =>
    bindO (po_words [y101, y102]) fun (y103 : ApiBlock) =>
    bindO (po_whole 71 43) fun (y104 : ApiWord) =>
    bindO (po_whole 72 a0) fun (y105 : ApiWord) =>
    bindO (po_words [y104, y105]) fun (y106 : ApiBlock) =>
    some ([y103, y106], 0)
theorem po_Change_spec {a0 : Int} {y : (List ApiBlock) × Int} (h : po_Change a0 = some y) : Spec gP 13 [.d (.int .i64 a0)] (.tuple [.d (.list (List.map encApiBlock y.1)), .d (.int .i64 y.2)]) := by
  refine spec_mir Tryz.func13 rfl (by kernel_rfl) (by kernel_rfl) (fun y : (List ApiBlock) × Int => .tuple [.d (.list (List.map encApiBlock y.1)), .d (.int .i64 y.2)]) ?_ h
  unfold po_Change
  simp only [List.replicate, List.length, nS, nA, Tryz.ntmps13, SV]
  refine .seqK (.region fun e h => ?_)
  simp only [seval, SE, ENMB]
  refine mU e ?_ h
  refine .seqK (.seqK (.joinV (.d (.int .i64 a0) :: U :: U :: U :: U :: U :: U :: U :: U :: U :: .d (.bool ((decide (a0 < 1)) || (decide (a0 > 999)))) :: us 12) ⟨[], []⟩ rfl ?_ ?_))
  refine SWs.region ?_
  rcases Bool.eq_false_or_eq_true (decide (a0 < 1)) with hb1 | hb1
  simp only [seval, SE, SL, PB, hb1, ENMB]
  simp only [seval, SE, SL, PB, hb1, ENMB]
  refine Mir.toK (.cond rfl (fun hb3 => ?_) (fun hb3 => ?_))
  refine .seqK (.region fun e h => ?_)
  simp only [seval, SE]
  refine mU e ?_ h
  refine .ret fun e h => ?_
  cases h
  simp only [seval, SF, Tryz.results13]
  refine .skip (Mir.toK (.seqK (.region fun e h => ?_)))
  simp only [seval, SE, ENMB]
  refine mU e ?_ h
  refine .seqK (.bind fun y101 hy4 => .bind fun y102 hy5 => .bind fun y103 hy6 => .bind fun y104 hy7 => .bind fun y105 hy8 => .bind fun y106 hy9 => .region fun e h => ?_)
  simp only [seval, SE, ENMB]
  refine SpecS.by (po_whole_spec hy4) (by simp only [seval, SF, ENMB]) ?_
  simp only [seval, SE, ENMB]
  refine SpecS.by (po_whole_spec hy5) (by simp only [seval, SF, ENMB]) ?_
  simp only [seval, SE, und_29, sz_77, zero_77, (nr rfl : okLen 4 = true), ENMB]
  refine SpecS.byF (po_words_specF hy6) (by simp only [seval, SF, ENMB]) ?_
  simp only [seval, SE, ENMB]
  refine SpecS.by (po_whole_spec hy7) (by simp only [seval, SF, ENMB]) ?_
  simp only [seval, SE, ENMB]
  refine SpecS.by (po_whole_spec hy8) (by simp only [seval, SF, ENMB]) ?_
  simp only [seval, SE, und_29, sz_77, zero_77, (nr rfl : okLen 4 = true), ENMB]
  refine SpecS.byF (po_words_specF hy9) (by simp only [seval, SF, ENMB]) ?_
  simp only [seval, SE, und_39, sz_31, zero_31, (nr rfl : okLen 6 = true), ENMB]
  refine mU e ?_ h
  refine .ret fun e h => ?_
  cases h
  simp only [seval, SF, ENMB, Tryz.results13]

def md_Group (a0 : Int) : Option Int :=
  bindO (if (a0 == 0) = true then
        some (a0 == 0)
      else
        if (a0 == 1000) = true then
          some (a0 == 1000)
        else
          if (a0 == 2000) = true then
            some (a0 == 2000)
          else
            if (a0 == 3000) = true then
              some (a0 == 3000)
            else
              if (a0 == 80000) = true then
                some (a0 == 80000)
              else
                if (a0 == 81000) = true then
                  some (a0 == 81000)
                else
                  if (a0 == 82000) = true then
                    some (a0 == 82000)
                  else
                    some (a0 == 83000)) fun (v106 : Bool) =>
  if v106 = true then
    some 1
  else
    bindO (if (a0 == 90000) = true then
          some (a0 == 90000)
        else
          some (a0 == 91000)) fun (v111 : Bool) =>
    if v111 = true then
      some 2
    else
      bindO (if (a0 == 54000) = true then
            some (a0 == 54000)
          else
            if (a0 == 55000) = true then
              some (a0 == 55000)
            else
              if (a0 == 56000) = true then
                some (a0 == 56000)
              else
                if (a0 == 57000) = true then
                  some (a0 == 57000)
                else
                  if (a0 == 58000) = true then
                    some (a0 == 58000)
                  else
                    some (a0 == 59000)) fun (v115 : Bool) =>
      if v115 = true then
        some 3
      else
        bindO (if (a0 == 43000) = true then
              some (a0 == 43000)
            else
              some (a0 == 49000)) fun (v118 : Bool) =>
        if v118 = true then
          some 4
        else
          bindO (if (a0 == 98000) = true then
                some (a0 == 98000)
              else
                some (a0 == 99000)) fun (v120 : Bool) =>
          if v120 = true then
            some 5
          else
            some 0
set_option maxHeartbeats 8000000 in
theorem md_Group_spec {a0 : Int} {y : Int} (h : md_Group a0 = some y) : Spec gP 38 [.d (.int .i64 a0)] (.d (.int .i64 y)) := by
  refine spec_mir Tryz.func38 rfl (by kernel_rfl) (by kernel_rfl) (fun y : Int => .d (.int .i64 y)) ?_ h
  unfold md_Group
  simp only [List.replicate, List.length, nS, nA, Tryz.ntmps38, SV]
  refine .seqK (.region fun e h => ?_)
  simp only [seval, SE]
  refine mU e ?_ h
  refine .seqK (.seqK (.region fun e h => ?_))
  simp only [seval, SE]
  refine mU e ?_ h
  refine .block (.seqK (.seqK (.region fun e h => ?_)))
  simp only [seval, SE]
  refine mU e ?_ h
  refine Mir.joinO (fun v106 : Bool => (U :: U :: U :: .d (.int .i64 a0) :: .d (.bool v106) :: us 24)) (fun v106 => ⟨[], []⟩) (fun _ => rfl) ?_ ?_
  refine .cond rfl (fun hb43 => ?_) (fun hb43 => ?_)
  refine .skip fun e h => ?_
  cases h
  simp only [seval, SF, Tryz.results38]
  refine .seqK (.region fun e h => ?_)
  simp only [seval, SE]
  refine mU e ?_ h
  refine .cond rfl (fun hb44 => ?_) (fun hb44 => ?_)
  refine .skip fun e h => ?_
  cases h
  simp only [seval, SF, Tryz.results38]
  refine .seqK (.region fun e h => ?_)
  simp only [seval, SE]
  refine mU e ?_ h
  refine .cond rfl (fun hb45 => ?_) (fun hb45 => ?_)
  refine .skip fun e h => ?_
  cases h
  simp only [seval, SF, Tryz.results38]
  refine .seqK (.region fun e h => ?_)
  simp only [seval, SE]
  refine mU e ?_ h
  refine .cond rfl (fun hb46 => ?_) (fun hb46 => ?_)
  refine .skip fun e h => ?_
  cases h
  simp only [seval, SF, Tryz.results38]
  refine .seqK (.region fun e h => ?_)
  simp only [seval, SE]
  refine mU e ?_ h
  refine .cond rfl (fun hb47 => ?_) (fun hb47 => ?_)
  refine .skip fun e h => ?_
  cases h
  simp only [seval, SF, Tryz.results38]
  refine .seqK (.region fun e h => ?_)
  simp only [seval, SE]
  refine mU e ?_ h
  refine .cond rfl (fun hb48 => ?_) (fun hb48 => ?_)
  refine .skip fun e h => ?_
  cases h
  simp only [seval, SF, Tryz.results38]
  refine .seqK (.region fun e h => ?_)
  simp only [seval, SE]
  refine mU e ?_ h
  refine .cond rfl (fun hb49 => ?_) (fun hb49 => ?_)
  refine .skip fun e h => ?_
  cases h
  simp only [seval, SF, Tryz.results38]
  refine .region fun e h => ?_
  simp only [seval, SE]
  cases h
  simp only [seval, SF, Tryz.results38]
  intro v106
  refine Mir.toK (.cond rfl (fun hb71 => ?_) (fun hb71 => ?_))
  refine .seqK (.region fun e h => ?_)
  simp only [seval, SE]
  refine mU e ?_ h
  refine .ret fun e h => ?_
  cases h
  simp only [seval, SF, Tryz.results38]
  refine .seqK (.seqK (.region fun e h => ?_))
  simp only [seval, SE]
  refine mU e ?_ h
  refine Mir.joinO (fun v111 : Bool => (U :: U :: U :: .d (.int .i64 a0) :: U :: U :: U :: U :: U :: U :: U :: U :: U :: .d (.bool v111) :: us 15)) (fun v111 => ⟨[], []⟩) (fun _ => rfl) ?_ ?_
  refine .cond rfl (fun hb73 => ?_) (fun hb73 => ?_)
  refine .skip fun e h => ?_
  cases h
  simp only [seval, SF, Tryz.results38]
  refine .region fun e h => ?_
  simp only [seval, SE]
  cases h
  simp only [seval, SF, Tryz.results38]
  intro v111
  refine Mir.toK (.cond rfl (fun hb92 => ?_) (fun hb92 => ?_))
  refine .seqK (.region fun e h => ?_)
  simp only [seval, SE]
  refine mU e ?_ h
  refine .ret fun e h => ?_
  cases h
  simp only [seval, SF, Tryz.results38]
  refine .seqK (.seqK (.region fun e h => ?_))
  simp only [seval, SE]
  refine mU e ?_ h
  refine Mir.joinO (fun v115 : Bool => (U :: U :: U :: .d (.int .i64 a0) :: U :: U :: U :: U :: U :: U :: U :: U :: U :: U :: U :: U :: .d (.bool v115) :: us 12)) (fun v115 => ⟨[], []⟩) (fun _ => rfl) ?_ ?_
  refine .cond rfl (fun hb98 => ?_) (fun hb98 => ?_)
  refine .skip fun e h => ?_
  cases h
  simp only [seval, SF, Tryz.results38]
  refine .seqK (.region fun e h => ?_)
  simp only [seval, SE]
  refine mU e ?_ h
  refine .cond rfl (fun hb99 => ?_) (fun hb99 => ?_)
  refine .skip fun e h => ?_
  cases h
  simp only [seval, SF, Tryz.results38]
  refine .seqK (.region fun e h => ?_)
  simp only [seval, SE]
  refine mU e ?_ h
  refine .cond rfl (fun hb100 => ?_) (fun hb100 => ?_)
  refine .skip fun e h => ?_
  cases h
  simp only [seval, SF, Tryz.results38]
  refine .seqK (.region fun e h => ?_)
  simp only [seval, SE]
  refine mU e ?_ h
  refine .cond rfl (fun hb101 => ?_) (fun hb101 => ?_)
  refine .skip fun e h => ?_
  cases h
  simp only [seval, SF, Tryz.results38]
  refine .seqK (.region fun e h => ?_)
  simp only [seval, SE]
  refine mU e ?_ h
  refine .cond rfl (fun hb102 => ?_) (fun hb102 => ?_)
  refine .skip fun e h => ?_
  cases h
  simp only [seval, SF, Tryz.results38]
  refine .region fun e h => ?_
  simp only [seval, SE]
  cases h
  simp only [seval, SF, Tryz.results38]
  intro v115
  refine Mir.toK (.cond rfl (fun hb110 => ?_) (fun hb110 => ?_))
  refine .seqK (.region fun e h => ?_)
  simp only [seval, SE]
  refine mU e ?_ h
  refine .ret fun e h => ?_
  cases h
  simp only [seval, SF, Tryz.results38]
  refine .seqK (.seqK (.region fun e h => ?_))
  simp only [seval, SE]
  refine mU e ?_ h
  refine Mir.joinO (fun v118 : Bool => (U :: U :: U :: .d (.int .i64 a0) :: U :: U :: U :: U :: U :: U :: U :: U :: U :: U :: U :: U :: U :: U :: U :: U :: U :: U :: U :: .d (.bool v118) :: us 5)) (fun v118 => ⟨[], []⟩) (fun _ => rfl) ?_ ?_
  refine .cond rfl (fun hb112 => ?_) (fun hb112 => ?_)
  refine .skip fun e h => ?_
  cases h
  simp only [seval, SF, Tryz.results38]
  refine .region fun e h => ?_
  simp only [seval, SE]
  cases h
  simp only [seval, SF, Tryz.results38]
  intro v118
  refine Mir.toK (.cond rfl (fun hb117 => ?_) (fun hb117 => ?_))
  refine .seqK (.region fun e h => ?_)
  simp only [seval, SE]
  refine mU e ?_ h
  refine .ret fun e h => ?_
  cases h
  simp only [seval, SF, Tryz.results38]
  refine .seqK (.seqK (.region fun e h => ?_))
  simp only [seval, SE]
  refine mU e ?_ h
  refine Mir.joinO (fun v120 : Bool => [U, U, U, U, U, U, U, U, U, U, U, U, U, U, U, U, U, U, U, U, U, U, U, U, U, U, .d (.bool v120), U, U]) (fun v120 => ⟨[], []⟩) (fun _ => rfl) ?_ ?_
  refine .cond rfl (fun hb119 => ?_) (fun hb119 => ?_)
  refine .skip fun e h => ?_
  cases h
  simp only [seval, SF, Tryz.results38]
  refine .region fun e h => ?_
  simp only [seval, SE]
  cases h
  simp only [seval, SF, Tryz.results38]
  intro v120
  refine Mir.toK (.cond rfl (fun hb121 => ?_) (fun hb121 => ?_))
  refine .seqK (.region fun e h => ?_)
  simp only [seval, SE]
  refine mU e ?_ h
  refine .ret fun e h => ?_
  cases h
  simp only [seval, SF, Tryz.results38]
  refine .skip (Mir.toB (Mir.toK (.seqK (.region fun e h => ?_))))
  simp only [seval, SE]
  refine mU e ?_ h
  refine .ret fun e h => ?_
  cases h
  simp only [seval, SF, Tryz.results38]

def po_Valid (a0 : PostOptions) : Option Int :=
  bindO (bindO (md_Group a0.Work) fun (y101 : Int) =>
      if (y101 != 3) = true then
        some true
      else
        if (decide (a0.Numbers < 0)) = true then
          some true
        else
          if (decide (a0.Numbers > 1000)) = true then
            some true
          else
            if (a0.Fold != 0) = true then
              if (decide (a0.Fold < 2)) = true then
                some true
              else
                some (decide (a0.Fold > 100))
            else
              some false) fun (v102 : Bool) =>
  if v102 = true then
    some 1
  else
    some 0
theorem po_Valid_spec {a0 : PostOptions} {y : Int} (h : po_Valid a0 = some y) : Spec gP 16 [.agg [.d (.int .i64 a0.Work), .d (.bool a0.Compress), .d (.int .i64 a0.Numbers), .d (.int .i64 a0.Fold)]] (.d (.int .i64 y)) := by
  refine spec_mir Tryz.func16 rfl (by kernel_rfl) (by kernel_rfl) (fun y : Int => .d (.int .i64 y)) ?_ h
  unfold po_Valid
  simp only [List.replicate, List.length, nS, nA, Tryz.ntmps16, SV]
  refine .seqK (.region fun e h => ?_)
  simp only [seval, SE]
  refine mU e ?_ h
  refine .seqK (.seqK (Mir.joinO (fun v102 : Bool => [U, U, U, U, U, U, U, U, U, U, U, U, U, U, U, U, U, U, U, U, U, U, U, U, U, U, U, U, U, U, U, .d (.bool v102)]) (fun v102 => ⟨[[.d (.int .i64 a0.Work), .d (.bool a0.Compress), .d (.int .i64 a0.Numbers), .d (.int .i64 a0.Fold)]], []⟩) (fun _ => rfl) ?_ ?_))
  refine .bind fun y101 hy1 => .ite (fun hb2 => ?_) (fun hb2 => ?_)
  refine .region fun e h => ?_
  simp only [seval, SE, fld_44_0, sz_2, ag_2, hb2]
  refine SpecS.by (md_Group_spec hy1) (by simp only [seval, SF, hb2]) ?_
  simp only [seval, SE, hb2]
  cases h
  simp only [seval, SF, hb2]
  refine .ite (fun hb3 => ?_) (fun hb3 => ?_)
  refine .region fun e h => ?_
  simp only [seval, SE, fld_44_0, sz_2, ag_2, hb2, hb3]
  refine SpecS.by (md_Group_spec hy1) (by simp only [seval, SF, hb2, hb3]) ?_
  simp only [seval, SE, fld_44_2, sz_2, ag_2, hb2, hb3]
  cases h
  simp only [seval, SF, hb2, hb3]
  refine .ite (fun hb4 => ?_) (fun hb4 => ?_)
  refine .region fun e h => ?_
  simp only [seval, SE, fld_44_0, sz_2, ag_2, hb2, hb3, hb4]
  refine SpecS.by (md_Group_spec hy1) (by simp only [seval, SF, hb2, hb3, hb4]) ?_
  simp only [seval, SE, fld_44_2, sz_2, ag_2, hb2, hb3, hb4]
  cases h
  simp only [seval, SF, hb2, hb3, hb4]
  refine .ite (fun hb5 => ?_) (fun hb5 => ?_)
  refine .ite (fun hb6 => ?_) (fun hb6 => ?_)
  refine .region fun e h => ?_
  simp only [seval, SE, fld_44_0, sz_2, ag_2, hb2, hb3, hb4, hb5, hb6]
  refine SpecS.by (md_Group_spec hy1) (by simp only [seval, SF, hb2, hb3, hb4, hb5, hb6]) ?_
  simp only [seval, SE, fld_44_2, sz_2, ag_2, fld_44_3, sz_3, ag_3, hb2, hb3, hb4, hb5, hb6]
  cases h
  simp only [seval, SF, hb2, hb3, hb4, hb5, hb6]
  refine .region fun e h => ?_
  simp only [seval, SE, fld_44_0, sz_2, ag_2, hb2, hb3, hb4, hb5, hb6]
  refine SpecS.by (md_Group_spec hy1) (by simp only [seval, SF, hb2, hb3, hb4, hb5, hb6]) ?_
  simp only [seval, SE, fld_44_2, sz_2, ag_2, fld_44_3, sz_3, ag_3, hb2, hb3, hb4, hb5, hb6]
  cases h
  simp only [seval, SF, hb2, hb3, hb4, hb5, hb6]
  refine .region fun e h => ?_
  simp only [seval, SE, fld_44_0, sz_2, ag_2, hb2, hb3, hb4, hb5]
  refine SpecS.by (md_Group_spec hy1) (by simp only [seval, SF, hb2, hb3, hb4, hb5]) ?_
  simp only [seval, SE, fld_44_2, sz_2, ag_2, fld_44_3, sz_3, ag_3, hb2, hb3, hb4, hb5]
  cases h
  simp only [seval, SF, hb2, hb3, hb4, hb5]
  intro v102
  refine Mir.toK (.cond rfl (fun hb8 => ?_) (fun hb8 => ?_))
  refine .seqK (.region fun e h => ?_)
  simp only [seval, SE]
  refine mU e ?_ h
  refine .ret fun e h => ?_
  cases h
  simp only [seval, SF, Tryz.results16]
  refine .skip (Mir.toK (.seqK (.region fun e h => ?_)))
  simp only [seval, SE]
  refine mU e ?_ h
  refine .ret fun e h => ?_
  cases h
  simp only [seval, SF, Tryz.results16]

def po_plain (a0 : (List ApiStage)) (a1 : ApiPos) (a2 : PostOptions) : Option ((List ApiBlock) × Int) :=
  bindX (if ((decide (a1.X > 10000000)) || (decide (a1.X < (-10000000)))) = true then
        some (.ret ([], 11))
      else
        if ((decide (a1.Y > 10000000)) || (decide (a1.Y < (-10000000)))) = true then
          some (.ret ([], 11))
        else
          if ((decide (a1.Z > 10000000)) || (decide (a1.Z < (-10000000)))) = true then
            some (.ret ([], 11))
          else
            some (.go ())) fun (v101 : Unit) =>
  bindO (po_whole 71 0) fun (y102 : ApiWord) =>
  bindO (po_whole 71 90) fun (y103 : ApiWord) =>
  bindO (po_word 71 a2.Work) fun (y104 : ApiWord) =>
  bindO (po_whole 71 49) fun (y105 : ApiWord) =>
  bindO (po_whole 71 98) fun (y106 : ApiWord) =>
  bindO (po_words [y102, y103, y104, y105, y106]) fun (y107 : ApiBlock) =>
  bindX (guardO (okIdx a0) (
      rangeX (fun (i463 : Nat) (e465 : ApiStage) (v464 : (List ApiBlock) × ApiPos) =>
        bindX (bindO (po_Change e465.Tool) fun (y490 : (List ApiBlock) × Int) =>
            if (y490.2 != 0) = true then
              some (.ret (.ret (.ret ([], y490.2))))
            else
              guardO (okLen (v464.1.length + y490.1.length)) (
              guardO (okIdx e465.Moves) (
              rangeX (fun (i508 : Nat) (e510 : ApiMove) (v509 : (List ApiBlock) × ApiPos) =>
                bindO (po_Move v509.2 e510) fun (y512 : ApiBlock × Int) =>
                if (y512.2 != 0) = true then
                  some (.ret (.ret (.ret (.ret ([], y512.2)))))
                else
                  guardO (okLen (v509.1.length + 1)) (
                  some (.go (v509.1 ++ [y512.1], e510.To)))) (fun (v509 : (List ApiBlock) × ApiPos) => some (.go (v509.1, v509.2))) e465.Moves 0 (v464.1 ++ y490.1, v464.2)))) fun (v489 : (List ApiBlock) × ApiPos) =>
        some (.go (v489.1, v489.2))) (fun (v464 : (List ApiBlock) × ApiPos) => some (.go (v464.1, v464.2))) a0 0 ([y107], a1))) fun (v310 : (List ApiBlock) × ApiPos) =>
  bindO (po_whole 71 49) fun (y513 : ApiWord) =>
  bindO (po_words [y513]) fun (y514 : ApiBlock) =>
  bindO (po_whole 77 30) fun (y515 : ApiWord) =>
  bindO (po_words [y515]) fun (y516 : ApiBlock) =>
  guardO (okLen (v310.1.length + 2)) (
  some (v310.1 ++ [y514, y516], 0))
set_option maxHeartbeats 8000000 in
theorem po_plain_spec {a0 : (List ApiStage)} {a1 : ApiPos} {a2 : PostOptions} {y : (List ApiBlock) × Int} (h : po_plain a0 a1 a2 = some y) : Spec gP 40 [.d (.list (List.map encApiStage a0)), .agg [.d (.int .i64 a1.X), .d (.int .i64 a1.Y), .d (.int .i64 a1.Z)], .agg [.d (.int .i64 a2.Work), .d (.bool a2.Compress), .d (.int .i64 a2.Numbers), .d (.int .i64 a2.Fold)]] (.tuple [.d (.list (List.map encApiBlock y.1)), .d (.int .i64 y.2)]) := by
  refine spec_mir Tryz.func40 rfl (by kernel_rfl) (by kernel_rfl) (fun y : (List ApiBlock) × Int => .tuple [.d (.list (List.map encApiBlock y.1)), .d (.int .i64 y.2)]) ?_ h
  unfold po_plain
  simp only [List.replicate, List.length, nS, nA, Tryz.ntmps40, SV]
  refine .seqK (.region fun e h => ?_)
  simp only [seval, SE, ENMB, eInt]
  refine mU e ?_ h
  refine .seqK (.seqK (.region fun e h => ?_))
  simp only [seval, SE, fld_23_0, sz_2, ag_2, fld_23_1, fld_23_2, und_121, zero_2, (nr rfl : okLen 3 = true), (nr rfl : ((3 : Nat) : Int) = 3), ENMB, eInt]
  refine mU e ?_ h
  refine Mir.join (fun v101 : Unit => (.d (.list (List.map encApiStage a0)) :: U :: U :: U :: .ptr 0 0 :: .ptr 1 0 :: us 95)) (fun v101 => ⟨[[.d (.int .i64 a1.X), .d (.int .i64 a1.Y), .d (.int .i64 a1.Z)], [.d (.int .i64 a2.Work), .d (.bool a2.Compress), .d (.int .i64 a2.Numbers), .d (.int .i64 a2.Fold)]], []⟩) (fun _ => rfl) ?_ ?_
  refine .block (.loopR 15 (.seqK (.region fun e h => ?_)))
  simp only [seval, SE, ENMB, eInt]
  refine mU e ?_ h
  refine .seqK (.condT rfl (.skip (Mir.toK (.seqK (.block (.seqK (.region fun e h => ?_)))))))
  simp only [seval, SE, und_121, sz_2, ag_2, ENMB, eInt]
  refine mU e ?_ h
  refine .seqK (.joinV (.d (.list (List.map encApiStage a0)) :: U :: U :: U :: .ptr 0 0 :: .ptr 1 0 :: U :: U :: U :: U :: U :: U :: U :: U :: U :: U :: U :: U :: U :: U :: U :: U :: U :: U :: U :: U :: .full (List.map (eInt .i64) [a1.X, a1.Y, a1.Z]) :: .d (.int .i64 3) :: .d (.int .i64 0) :: U :: U :: U :: U :: U :: U :: U :: U :: .d (.bool ((decide (a1.X > 10000000)) || (decide (a1.X < (-10000000))))) :: us 63) ⟨[[.d (.int .i64 a1.X), .d (.int .i64 a1.Y), .d (.int .i64 a1.Z)], [.d (.int .i64 a2.Work), .d (.bool a2.Compress), .d (.int .i64 a2.Numbers), .d (.int .i64 a2.Fold)]], []⟩ rfl ?_ ?_)
  refine SWs.region ?_
  rcases Bool.eq_false_or_eq_true (decide (a1.X > 10000000)) with hb18 | hb18
  simp only [seval, SE, SL, PB, hb18, ENMB, eInt]
  simp only [seval, SE, SL, PB, hb18, ENMB, eInt]
  refine Mir.toK (.cond rfl (fun hb20 => ?_) (fun hb20 => ?_))
  refine .seqK (.region fun e h => ?_)
  simp only [seval, SE, ENMB, eInt]
  refine mU e ?_ h
  refine .ret fun e h => ?_
  cases h
  simp only [seval, SF, ENMB, eInt, Tryz.results40]
  refine .skip (Mir.toB (Mir.toK (.region fun e h => ?_)))
  simp only [seval, SE, (nr rfl : IntKind.i64.wrap 1 = 1), ENMB, eInt]
  refine Mir.useN (e := e) ?_ h
  refine .seqK (.region fun e h => ?_)
  simp only [seval, SE, ENMB, eInt]
  refine mU e ?_ h
  refine .seqK (.condT rfl (.skip (Mir.toK (.seqK (.block (.seqK (.region fun e h => ?_)))))))
  simp only [seval, SE, und_121, sz_2, ag_2, ENMB, eInt]
  refine mU e ?_ h
  refine .seqK (.joinV (.d (.list (List.map encApiStage a0)) :: U :: U :: U :: .ptr 0 0 :: .ptr 1 0 :: U :: U :: U :: U :: U :: U :: U :: U :: U :: U :: U :: U :: U :: U :: U :: U :: U :: U :: U :: U :: .full (List.map (eInt .i64) [a1.X, a1.Y, a1.Z]) :: .d (.int .i64 3) :: .d (.int .i64 1) :: U :: U :: U :: U :: U :: U :: U :: U :: .d (.bool ((decide (a1.Y > 10000000)) || (decide (a1.Y < (-10000000))))) :: us 63) ⟨[[.d (.int .i64 a1.X), .d (.int .i64 a1.Y), .d (.int .i64 a1.Z)], [.d (.int .i64 a2.Work), .d (.bool a2.Compress), .d (.int .i64 a2.Numbers), .d (.int .i64 a2.Fold)]], []⟩ rfl ?_ ?_)
  refine SWs.region ?_
  rcases Bool.eq_false_or_eq_true (decide (a1.Y > 10000000)) with hb23 | hb23
  simp only [seval, SE, SL, PB, hb23, ENMB, eInt]
  simp only [seval, SE, SL, PB, hb23, ENMB, eInt]
  refine Mir.toK (.cond rfl (fun hb25 => ?_) (fun hb25 => ?_))
  refine .seqK (.region fun e h => ?_)
  simp only [seval, SE, ENMB, eInt]
  refine mU e ?_ h
  refine .ret fun e h => ?_
  cases h
  simp only [seval, SF, ENMB, eInt, Tryz.results40]
  refine .skip (Mir.toB (Mir.toK (.region fun e h => ?_)))
  simp only [seval, SE, (nr rfl : IntKind.i64.wrap 2 = 2), ENMB, eInt]
  refine Mir.useN (e := e) ?_ h
  refine .seqK (.region fun e h => ?_)
  simp only [seval, SE, ENMB, eInt]
  refine mU e ?_ h
  refine .seqK (.condT rfl (.skip (Mir.toK (.seqK (.block (.seqK (.region fun e h => ?_)))))))
  simp only [seval, SE, und_121, sz_2, ag_2, ENMB, eInt]
  refine mU e ?_ h
  refine .seqK (.joinV (.d (.list (List.map encApiStage a0)) :: U :: U :: U :: .ptr 0 0 :: .ptr 1 0 :: U :: U :: U :: U :: U :: U :: U :: U :: U :: U :: U :: U :: U :: U :: U :: U :: U :: U :: U :: U :: .full (List.map (eInt .i64) [a1.X, a1.Y, a1.Z]) :: .d (.int .i64 3) :: .d (.int .i64 2) :: U :: U :: U :: U :: U :: U :: U :: U :: .d (.bool ((decide (a1.Z > 10000000)) || (decide (a1.Z < (-10000000))))) :: us 63) ⟨[[.d (.int .i64 a1.X), .d (.int .i64 a1.Y), .d (.int .i64 a1.Z)], [.d (.int .i64 a2.Work), .d (.bool a2.Compress), .d (.int .i64 a2.Numbers), .d (.int .i64 a2.Fold)]], []⟩ rfl ?_ ?_)
  refine SWs.region ?_
  rcases Bool.eq_false_or_eq_true (decide (a1.Z > 10000000)) with hb28 | hb28
  simp only [seval, SE, SL, PB, hb28, ENMB, eInt]
  simp only [seval, SE, SL, PB, hb28, ENMB, eInt]
  refine Mir.toK (.cond rfl (fun hb30 => ?_) (fun hb30 => ?_))
  refine .seqK (.region fun e h => ?_)
  simp only [seval, SE, ENMB, eInt]
  refine mU e ?_ h
  refine .ret fun e h => ?_
  cases h
  simp only [seval, SF, ENMB, eInt, Tryz.results40]
  refine .skip (Mir.toB (Mir.toK (.region fun e h => ?_)))
  simp only [seval, SE, (nr rfl : IntKind.i64.wrap 3 = 3), ENMB, eInt]
  refine Mir.useN (e := e) ?_ h
  refine .seqK (.region fun e h => ?_)
  simp only [seval, SE, ENMB, eInt]
  refine mU e ?_ h
  refine .seqK (.condF rfl (.exit fun e h => ?_))
  cases h
  simp only [seval, SF, ENMB, eInt, Tryz.results40]
  intro v101
  refine Mir.toK (.seqK (.bind fun y102 hy31 => .bind fun y103 hy32 => .bind fun y104 hy33 => .bind fun y105 hy34 => .bind fun y106 hy35 => .bind fun y107 hy36 => .regionT 4 [] (by kernel_rfl) fun e h => ?_))
  simp only [seval, SE, w_none, w_eq, SB, ENMB, eInt]
  refine Spec.by (po_whole_spec hy31) (by simp only [seval, SF, ENMB, eInt]) ?_
  simp only [seval, SE, w_none, w_eq, SB, ENMB, eInt]
  refine Spec.by (po_whole_spec hy32) (by simp only [seval, SF, ENMB, eInt]) ?_
  simp only [seval, SE, w_none, w_eq, SB, fld_44_0, sz_2, ag_2, ENMB, eInt]
  refine regW.alt 5 rfl ?_
  simp only [seval, SE, w_none, w_eq, ENMB, eInt]
  refine SpecS.by (po_word_spec hy33) (by simp only [seval, SF, ENMB, eInt]) ?_
  simp only [seval, SE, w_none, w_eq, ENMB, eInt]
  refine SpecS.by (po_whole_spec hy34) (by simp only [seval, SF, ENMB, eInt]) ?_
  simp only [seval, SE, w_none, w_eq, ENMB, eInt]
  refine SpecS.by (po_whole_spec hy35) (by simp only [seval, SF, ENMB, eInt]) ?_
  simp only [seval, SE, w_none, w_eq, und_29, sz_77, zero_77, (nr rfl : okLen 10 = true), ENMB, eInt]
  refine SpecS.byF (po_words_specF hy36) (by simp only [seval, SF, ENMB, eInt]) ?_
  simp only [seval, SE, w_none, w_eq, ENMB, eInt]
  refine alt_litOwn (es := List.map encApiBlock [y107]) app_39 (by simp only [seval, SE, und_39, sz_31, zero_31, (nr rfl : okLen 3 = true), ENMB, eInt]) (by decide) (regW.of ?_)
  simp only [seval, SE, w_none, w_eq, und_39, sz_31, zero_31, (nr rfl : okLen 3 = true), ENMB, eInt]
  refine mU e ?_ h
  refine .seqK (.region fun e h => ?_)
  simp only [seval, SE, ag_23, sz_23, zero_23, ENMB, eInt]
  refine mU e ?_ h
  refine .seqK (.seqK (.region fun e h => ?_))
  simp only [seval, SE, und_47, ENMB, eInt]
  refine mU e ?_ h
  refine Mir.join (fun v310 : (List ApiBlock) × ApiPos => (U :: U :: U :: U :: U :: U :: U :: U :: U :: U :: .own 0 (List.map encApiBlock v310.1) :: us 90)) (fun v310 => ⟨[[.d (.int .i64 a1.X), .d (.int .i64 a1.Y), .d (.int .i64 a1.Z)], [.d (.int .i64 a2.Work), .d (.bool a2.Compress), .d (.int .i64 a2.Numbers), .d (.int .i64 a2.Fold)], [.d (.int .i64 v310.2.X), .d (.int .i64 v310.2.Y), .d (.int .i64 v310.2.Z)]], [(31, v310.1.length)]⟩) (fun _ => rfl) ?_ ?_
  refine .block (.guard fun qg780 => Mir.range (fun (i463 : Nat) (v464 : (List ApiBlock) × ApiPos) => (U :: U :: U :: U :: U :: U :: U :: U :: U :: U :: .own 0 (List.map encApiBlock v464.1) :: .ptr 2 0 :: U :: U :: U :: U :: U :: U :: U :: U :: U :: U :: U :: U :: U :: U :: U :: U :: U :: U :: U :: U :: U :: U :: U :: U :: U :: U :: U :: U :: U :: U :: U :: U :: U :: U :: U :: U :: U :: U :: .d (.list (List.map encApiStage a0)) :: .d (.int .i64 (a0.length : Int)) :: .d (.int .i64 (i463 : Int)) :: us 48)) (fun i463 v464 => ⟨[[.d (.int .i64 a1.X), .d (.int .i64 a1.Y), .d (.int .i64 a1.Z)], [.d (.int .i64 a2.Work), .d (.bool a2.Compress), .d (.int .i64 a2.Numbers), .d (.int .i64 a2.Fold)], [.d (.int .i64 v464.2.X), .d (.int .i64 v464.2.Y), .d (.int .i64 v464.2.Z)]], [(31, v464.1.length)]⟩) qg780 (fun _ _ => rfl) (by simp only [seval, SF, ENMB, eInt, (nr rfl : ((0 : Nat) : Int) = 0)]) (by simp only [seval, SF, ENMB, eInt, (nr rfl : ((0 : Nat) : Int) = 0)]) ?_ ?_)
  intro i463 e465 v464 qr778
  refine .seqK (.region fun e h => ?_)
  simp only [seval, SE, qr778, ENMB, eInt]
  refine mU e ?_ h
  refine .seqK (.condT rfl (.skip (Mir.toK (.seqK (Mir.join (fun v489 : (List ApiBlock) × ApiPos => (U :: U :: U :: U :: U :: U :: U :: U :: U :: U :: .own 0 (List.map encApiBlock v489.1) :: .ptr 2 0 :: U :: U :: U :: U :: U :: U :: U :: U :: U :: U :: U :: U :: U :: U :: U :: U :: U :: U :: U :: U :: U :: U :: U :: U :: U :: U :: U :: U :: U :: U :: U :: U :: U :: U :: U :: U :: U :: U :: .d (.list (List.map encApiStage a0)) :: .d (.int .i64 (a0.length : Int)) :: .d (.int .i64 (i463 : Int)) :: us 48)) (fun v489 => ⟨[[.d (.int .i64 a1.X), .d (.int .i64 a1.Y), .d (.int .i64 a1.Z)], [.d (.int .i64 a2.Work), .d (.bool a2.Compress), .d (.int .i64 a2.Numbers), .d (.int .i64 a2.Fold)], [.d (.int .i64 v489.2.X), .d (.int .i64 v489.2.Y), .d (.int .i64 v489.2.Z)]], [(31, v489.1.length)]⟩) (fun _ => rfl) ?_ ?_)))))
  refine .block (.seqK (.region fun e h => ?_))
  simp only [seval, SE, und_47, sz_83, qr778, Int.toNat_natCast, ag_83, zero_83, ENMB, eInt]
  refine mU e ?_ h
  refine .seqK (.bind fun y490 hy832 => .region fun e h => ?_)
  simp only [seval, SE, fld_83_0, sz_3, ag_3, ENMB, eInt]
  refine SpecS.by (po_Change_spec hy832) (by simp only [seval, SF, ENMB, eInt]) ?_
  simp only [seval, SE, ENMB, eInt]
  refine mU e ?_ h
  refine .seqK (.seqK (.region fun e h => ?_))
  simp only [seval, SE, ENMB, eInt]
  refine mU e ?_ h
  refine .cond rfl (fun hb834 => ?_) (fun hb834 => ?_)
  refine .seqK (.region fun e h => ?_)
  simp only [seval, SE, ENMB, eInt]
  refine mU e ?_ h
  refine .ret fun e h => ?_
  cases h
  simp only [seval, SF, ENMB, eInt, Tryz.results40]
  refine .skip (Mir.toK (.seqK (.guard fun q835 => .region fun e h => ?_)))
  simp only [seval, SE, app_39, al_ApiBlock, q835, ENMB, eInt]
  refine mU e ?_ h
  refine .seqK (.region fun e h => ?_)
  simp only [seval, SE, fld_83_1, sz_81, ag_81, und_81, ENMB, eInt]
  refine mU e ?_ h
  refine .block (.guard fun qg874 => Mir.range (fun (i508 : Nat) (v509 : (List ApiBlock) × ApiPos) => (U :: U :: U :: U :: U :: U :: U :: U :: U :: U :: .own 0 (List.map encApiBlock v509.1) :: .ptr 2 0 :: U :: U :: U :: U :: U :: U :: U :: U :: U :: U :: U :: U :: U :: U :: U :: U :: U :: U :: U :: U :: U :: U :: U :: U :: U :: U :: U :: U :: U :: U :: U :: U :: U :: U :: U :: U :: U :: U :: .d (.list (List.map encApiStage a0)) :: .d (.int .i64 (a0.length : Int)) :: .d (.int .i64 (i463 : Int)) :: U :: U :: U :: U :: U :: U :: U :: U :: U :: U :: U :: U :: U :: U :: U :: U :: .d (.list (List.map encApiMove e465.Moves)) :: .d (.int .i64 (e465.Moves.length : Int)) :: .d (.int .i64 (i508 : Int)) :: us 29)) (fun i508 v509 => ⟨[[.d (.int .i64 a1.X), .d (.int .i64 a1.Y), .d (.int .i64 a1.Z)], [.d (.int .i64 a2.Work), .d (.bool a2.Compress), .d (.int .i64 a2.Numbers), .d (.int .i64 a2.Fold)], [.d (.int .i64 v509.2.X), .d (.int .i64 v509.2.Y), .d (.int .i64 v509.2.Z)], [.d (.int .i64 e465.Tool), .d (.list (List.map encApiMove e465.Moves))]], [(31, v509.1.length)]⟩) qg874 (fun _ _ => rfl) (by simp only [seval, SF, ENMB, eInt, (nr rfl : ((0 : Nat) : Int) = 0)]) (by simp only [seval, SF, ENMB, eInt, (nr rfl : ((0 : Nat) : Int) = 0)]) ?_ ?_)
  intro i508 e510 v509 qr872
  refine .seqK (.region fun e h => ?_)
  simp only [seval, SE, qr872, ENMB, eInt]
  refine mU e ?_ h
  refine .seqK (.condT rfl (.skip (Mir.toK (.seqK (.block (.seqK (.region fun e h => ?_)))))))
  simp only [seval, SE, und_81, sz_27, qr872, Int.toNat_natCast, ag_27, zero_27, ENMB, eInt]
  refine mU e ?_ h
  refine .seqK (.bind fun y512 hy879 => .region fun e h => ?_)
  simp only [seval, SE, ag_23, sz_23, ag_27, sz_27, ENMB, eInt]
  refine SpecS.by (po_Move_spec hy879) (by simp only [seval, SF, ENMB, eInt]) ?_
  simp only [seval, SE, zero_31, sz_31, ENMB, eInt]
  refine mU e ?_ h
  refine .seqK (.seqK (.region fun e h => ?_))
  simp only [seval, SE, ENMB, eInt]
  refine mU e ?_ h
  refine .cond rfl (fun hb881 => ?_) (fun hb881 => ?_)
  refine .seqK (.region fun e h => ?_)
  simp only [seval, SE, ENMB, eInt]
  refine mU e ?_ h
  refine .ret fun e h => ?_
  cases h
  simp only [seval, SF, ENMB, eInt, Tryz.results40]
  refine .skip (Mir.toK (.guard fun q882 => .regionD [] (by kernel_rfl) fun e h => ?_))
  simp only [seval, SE, SB, ag_31, sz_31, und_39, zero_31, (nr rfl : okLen 3 = true), app_39, al_ApiBlock, q882, fld_27_1, sz_23, ag_23, ENMB, eInt]
  refine mU e ?_ h
  refine .region fun e h => ?_
  simp only [seval, SE, ENMB, eInt]
  cases h
  simp only [seval, SF, ENMB, eInt, Tryz.results40, qr872]
  intro v509 qd873
  refine .seqK (.region fun e h => ?_)
  simp only [seval, SE, qd873, ENMB, eInt]
  refine mU e ?_ h
  refine .seqK (.condF rfl (.exit fun e h => ?_))
  cases h
  simp only [seval, SF, ENMB, eInt, Tryz.results40]
  intro v489
  refine Mir.toK (.region fun e h => ?_)
  simp only [seval, SE, ENMB, eInt]
  cases h
  simp only [seval, SF, ENMB, eInt, Tryz.results40, qr778]
  intro v464 qd779
  refine .seqK (.region fun e h => ?_)
  simp only [seval, SE, qd779, ENMB, eInt]
  refine mU e ?_ h
  refine .seqK (.condF rfl (.exit fun e h => ?_))
  cases h
  simp only [seval, SF, ENMB, eInt, Tryz.results40]
  intro v310
  refine Mir.toK (.seqK (.bind fun y513 hy883 => .bind fun y514 hy884 => .bind fun y515 hy885 => .bind fun y516 hy886 => .guard fun q887 => .region fun e h => ?_))
  simp only [seval, SE, ENMB, eInt]
  refine SpecS.by (po_whole_spec hy883) (by simp only [seval, SF, ENMB, eInt]) ?_
  simp only [seval, SE, und_29, sz_77, zero_77, (nr rfl : okLen 2 = true), ENMB, eInt]
  refine SpecS.byF (po_words_specF hy884) (by simp only [seval, SF, ENMB, eInt]) ?_
  simp only [seval, SE, ENMB, eInt]
  refine SpecS.by (po_whole_spec hy885) (by simp only [seval, SF, ENMB, eInt]) ?_
  simp only [seval, SE, und_29, sz_77, zero_77, (nr rfl : okLen 2 = true), ENMB, eInt]
  refine SpecS.byF (po_words_specF hy886) (by simp only [seval, SF, ENMB, eInt]) ?_
  simp only [seval, SE, und_39, sz_31, zero_31, (nr rfl : okLen 6 = true), app_39, al_ApiBlock, q887, ENMB, eInt]
  refine mU e ?_ h
  refine .ret fun e h => ?_
  cases h
  simp only [seval, SF, ENMB, eInt, Tryz.results40]

def md_New  : Option ModalState :=
  some (ModalState.mk 0 90000 54000 49000 98000 0 0 0)
theorem md_New_spec  {y : ModalState} (h : md_New = some y) : Spec gP 23 [] (.agg [.d (.int .i64 y.Motion), .d (.int .i64 y.Distance), .d (.int .i64 y.Work), .d (.int .i64 y.Length), .d (.int .i64 y.Return), .d (.int .i64 y.Feed), .d (.int .i64 y.Tool), .d (.int .i64 y.Offset)]) := by
  refine spec_mir Tryz.func23 rfl (by kernel_rfl) (by kernel_rfl) (fun y : ModalState => .agg [.d (.int .i64 y.Motion), .d (.int .i64 y.Distance), .d (.int .i64 y.Work), .d (.int .i64 y.Length), .d (.int .i64 y.Return), .d (.int .i64 y.Feed), .d (.int .i64 y.Tool), .d (.int .i64 y.Offset)]) ?_ h
  unfold md_New
  simp only [List.replicate, List.length, nS, nA, Tryz.ntmps23, SV]
  refine .seqK (.region fun e h => ?_)
  simp only [seval, SE, zero_57]
  refine mU e ?_ h
  refine .seqK (.region fun e h => ?_)
  simp only [seval, SE, zero_57, pl_57, sz_57]
  refine mU e ?_ h
  refine .ret fun e h => ?_
  cases h
  simp only [seval, SF, Tryz.results23, ag_57, sz_57]

def md_Check (a0 : ApiBlock) : Option Int :=
  bindX (guardO (okIdx a0.Words) (
      rangeX (fun (i232 : Nat) (e234 : ApiWord) (v233 : (List (Int × Bool)) × (List (Int × Bool))) =>
        bindX (bindX (if (e234.Letter == 71) = true then
                  bindO (md_Group e234.Value) fun (y247 : Int) =>
                  bindO (if (y247 == 0) = true then
                        some true
                      else
                        some ((mget v233.2 y247).getD false)) fun (v248 : Bool) =>
                  if v248 = true then
                    some (.ret (.ret (.ret (.ret 1))))
                  else
                    some (.ret (.go (v233.1, mput v233.2 y247 true)))
                else
                  if (e234.Letter == 70) = true then
                    if (decide (e234.Value < 0)) = true then
                      some (.ret (.ret (.ret (.ret 1))))
                    else
                      some (.go ())
                  else
                    bindO (if (e234.Letter == 84) = true then
                          some (e234.Letter == 84)
                        else
                          some (e234.Letter == 72)) fun (v249 : Bool) =>
                    if v249 = true then
                      if ((decide (e234.Value < 0)) || ((Int.tmod e234.Value 1000) != 0)) = true then
                        some (.ret (.ret (.ret (.ret 1))))
                      else
                        some (.go ())
                    else
                      some (.go ())) fun (v246 : Unit) =>
            if ((mget v233.1 e234.Letter).getD false) = true then
              some (.ret (.ret (.ret 1)))
            else
              some (.go (mput v233.1 e234.Letter true, v233.2))) fun (v242 : (List (Int × Bool)) × (List (Int × Bool))) =>
        some (.go (v242.1, v242.2))) (fun (v233 : (List (Int × Bool)) × (List (Int × Bool))) => some (.go (v233.1, v233.2))) a0.Words 0 ([], []))) fun (v175 : (List (Int × Bool)) × (List (Int × Bool))) =>
  some 0
set_option maxHeartbeats 8000000 in
theorem md_Check_spec {a0 : ApiBlock} {y : Int} (h : md_Check a0 = some y) : Spec gP 95 [.agg [.d (.bool a0.Skip), .d (.list (List.map encApiWord a0.Words)), .d (.str a0.Comment)]] (.d (.int .i64 y)) := by
  refine spec_mir Tryz.func95 rfl (by kernel_rfl) (by kernel_rfl) (fun y : Int => .d (.int .i64 y)) ?_ h
  unfold md_Check
  simp only [List.replicate, List.length, nS, nA, Tryz.ntmps95, SV]
  refine .seqK (.region fun e h => ?_)
  simp only [seval, SE, ENMB]
  refine mU e ?_ h
  refine .seqK (.regionW fun e h => regW.alt 0 rfl ?_)
  simp only [seval, SE, w_none, w_eq, ENMB]
  refine alt_makeMap .u8 (regW.of ?_)
  simp only [seval, SE, w_none, w_eq, xMN, ENMB]
  refine mU e ?_ h
  refine .seqK (.regionW fun e h => regW.alt 0 rfl ?_)
  simp only [seval, SE, w_none, w_eq, ENMB]
  refine alt_makeMap .i64 (regW.of ?_)
  simp only [seval, SE, w_none, w_eq, xMN, ENMB]
  refine mU e ?_ h
  refine .seqK (.seqK (.region fun e h => ?_))
  simp only [seval, SE, fld_31_1, sz_29, ag_29, und_29, ENMB]
  refine mU e ?_ h
  refine Mir.join (fun v175 : (List (Int × Bool)) × (List (Int × Bool)) => (us 58)) (fun v175 => ⟨[[.d (.bool a0.Skip), .d (.list (List.map encApiWord a0.Words)), .d (.str a0.Comment)], [.mapc .u8 (List.map (ekv evB) v175.1)], [.mapc .i64 (List.map (ekv evB) v175.2)]], []⟩) (fun _ => rfl) ?_ ?_
  refine .block (.guard fun qg394 => Mir.range (fun (i232 : Nat) (v233 : (List (Int × Bool)) × (List (Int × Bool))) => (U :: U :: U :: .mp 1 :: .mp 2 :: U :: U :: U :: U :: U :: U :: .d (.list (List.map encApiWord a0.Words)) :: .d (.int .i64 (a0.Words.length : Int)) :: .d (.int .i64 (i232 : Int)) :: us 44)) (fun i232 v233 => ⟨[[.d (.bool a0.Skip), .d (.list (List.map encApiWord a0.Words)), .d (.str a0.Comment)], [.mapc .u8 (List.map (ekv evB) v233.1)], [.mapc .i64 (List.map (ekv evB) v233.2)]], []⟩) qg394 (fun _ _ => rfl) (by simp only [seval, SF, ENMB, (nr rfl : ((0 : Nat) : Int) = 0)]) (by simp only [seval, SF, ENMB, (nr rfl : ((0 : Nat) : Int) = 0)]) ?_ ?_)
  intro i232 e234 v233 qr392
  refine .seqK (.region fun e h => ?_)
  simp only [seval, SE, qr392, ENMB]
  refine mU e ?_ h
  refine .seqK (.condT rfl (.skip (Mir.toK (.seqK (Mir.join (fun v242 : (List (Int × Bool)) × (List (Int × Bool)) => (U :: U :: U :: .mp 1 :: .mp 2 :: U :: U :: U :: U :: U :: U :: .d (.list (List.map encApiWord a0.Words)) :: .d (.int .i64 (a0.Words.length : Int)) :: .d (.int .i64 (i232 : Int)) :: us 44)) (fun v242 => ⟨[[.d (.bool a0.Skip), .d (.list (List.map encApiWord a0.Words)), .d (.str a0.Comment)], [.mapc .u8 (List.map (ekv evB) v242.1)], [.mapc .i64 (List.map (ekv evB) v242.2)]], []⟩) (fun _ => rfl) ?_ ?_)))))
  refine .block (.seqK (.region fun e h => ?_))
  simp only [seval, SE, und_29, sz_77, qr392, Int.toNat_natCast, ag_77, zero_77, ENMB]
  refine mU e ?_ h
  refine .seqK (.seqK (.region fun e h => ?_))
  simp only [seval, SE, fld_77_0, sz_5, ag_5, ENMB]
  refine mU e ?_ h
  refine Mir.join (fun v246 : Unit => (U :: U :: U :: .mp 1 :: .mp 2 :: U :: .ptr 3 0 :: U :: U :: U :: U :: .d (.list (List.map encApiWord a0.Words)) :: .d (.int .i64 (a0.Words.length : Int)) :: .d (.int .i64 (i232 : Int)) :: us 44)) (fun v246 => ⟨[[.d (.bool a0.Skip), .d (.list (List.map encApiWord a0.Words)), .d (.str a0.Comment)], [.mapc .u8 (List.map (ekv evB) v233.1)], [.mapc .i64 (List.map (ekv evB) v233.2)], [.d (.int .u8 e234.Letter), .d (.int .i64 e234.Value)]], []⟩) (fun _ => rfl) ?_ ?_
  refine .block (.seqK (.region fun e h => ?_))
  simp only [seval, SE, ENMB]
  refine mU e ?_ h
  refine .cond rfl (fun hb433 => ?_) (fun hb433 => ?_)
  refine .seqK (.bind fun y247 hy434 => .region fun e h => ?_)
  simp only [seval, SE, fld_77_1, sz_2, ag_2, ENMB]
  refine SpecS.by (md_Group_spec hy434) (by simp only [seval, SF, ENMB]) ?_
  simp only [seval, SE, ENMB]
  refine mU e ?_ h
  refine .seqK (.seqK (Mir.joinO (fun v248 : Bool => (U :: U :: U :: .mp 1 :: .mp 2 :: U :: U :: .d (.int .i64 y247) :: U :: U :: U :: .d (.list (List.map encApiWord a0.Words)) :: .d (.int .i64 (a0.Words.length : Int)) :: .d (.int .i64 (i232 : Int)) :: U :: U :: U :: U :: U :: U :: U :: U :: U :: U :: U :: U :: U :: U :: U :: U :: .d (.bool v248) :: us 27)) (fun v248 => ⟨[[.d (.bool a0.Skip), .d (.list (List.map encApiWord a0.Words)), .d (.str a0.Comment)], [.mapc .u8 (List.map (ekv evB) v233.1)], [.mapc .i64 (List.map (ekv evB) v233.2)], [.d (.int .u8 e234.Letter), .d (.int .i64 e234.Value)]], []⟩) (fun _ => rfl) ?_ ?_))
  refine .ite (fun hb435 => ?_) (fun hb435 => ?_)
  refine .region fun e h => ?_
  simp only [seval, SE, ENMB, hb435]
  cases h
  simp only [seval, SF, ENMB, hb435]
  refine .regionW fun e h => regW.alt 5 rfl ?_
  simp only [seval, SE, w_none, w_eq, ENMB, hb435]
  refine alt_lookup rfl rfl rfl (by simp only [mapT, und_181, und_3]) zero_4 rfl (regW.of ?_)
  simp only [seval, SE, w_none, w_eq, mg_B, ENMB, hb435]
  cases h
  simp only [seval, SF, ENMB, hb435]
  intro v248
  refine Mir.toK (.cond rfl (fun hb437 => ?_) (fun hb437 => ?_))
  refine .seqK (.region fun e h => ?_)
  simp only [seval, SE, ENMB]
  refine mU e ?_ h
  refine .ret fun e h => ?_
  cases h
  simp only [seval, SF, ENMB, Tryz.results95]
  refine .skip (Mir.toK (.seqK (.regionW fun e h => regW.alt 2 rfl ?_)))
  simp only [seval, SE, w_none, w_eq, ENMB]
  refine alt_mapUpdate (et := 4) rfl rfl rfl rfl (by simp only [mapT, und_181, und_3]) (regW.of ?_)
  simp only [seval, SE, w_none, w_eq, mp_B, ENMB]
  refine mU e ?_ h
  refine .exit fun e h => ?_
  cases h
  simp only [seval, SF, ENMB, Tryz.results95]
  refine .seqK (.region fun e h => ?_)
  simp only [seval, SE, ENMB]
  refine mU e ?_ h
  refine .cond rfl (fun hb438 => ?_) (fun hb438 => ?_)
  refine .seqK (.region fun e h => ?_)
  simp only [seval, SE, fld_77_1, sz_2, ag_2, ENMB]
  refine mU e ?_ h
  refine .cond rfl (fun hb439 => ?_) (fun hb439 => ?_)
  refine .seqK (.region fun e h => ?_)
  simp only [seval, SE, ENMB]
  refine mU e ?_ h
  refine .ret fun e h => ?_
  cases h
  simp only [seval, SF, ENMB, Tryz.results95]
  refine .skip fun e h => ?_
  cases h
  simp only [seval, SF, ENMB, Tryz.results95]
  refine .seqK (.seqK (.region fun e h => ?_))
  simp only [seval, SE, ENMB]
  refine mU e ?_ h
  refine Mir.joinO (fun v249 : Bool => (U :: U :: U :: .mp 1 :: .mp 2 :: U :: .ptr 3 0 :: U :: U :: U :: U :: .d (.list (List.map encApiWord a0.Words)) :: .d (.int .i64 (a0.Words.length : Int)) :: .d (.int .i64 (i232 : Int)) :: U :: U :: U :: U :: U :: U :: U :: U :: U :: U :: U :: U :: U :: U :: U :: U :: U :: U :: U :: U :: U :: U :: U :: U :: .d (.bool v249) :: us 19)) (fun v249 => ⟨[[.d (.bool a0.Skip), .d (.list (List.map encApiWord a0.Words)), .d (.str a0.Comment)], [.mapc .u8 (List.map (ekv evB) v233.1)], [.mapc .i64 (List.map (ekv evB) v233.2)], [.d (.int .u8 e234.Letter), .d (.int .i64 e234.Value)]], []⟩) (fun _ => rfl) ?_ ?_
  refine .cond rfl (fun hb441 => ?_) (fun hb441 => ?_)
  refine .skip fun e h => ?_
  cases h
  simp only [seval, SF, ENMB, Tryz.results95]
  refine .region fun e h => ?_
  simp only [seval, SE, ENMB]
  cases h
  simp only [seval, SF, ENMB, Tryz.results95]
  intro v249
  refine Mir.toK (.cond rfl (fun hb442 => ?_) (fun hb442 => ?_))
  refine .seqK (.joinV (U :: U :: U :: .mp 1 :: .mp 2 :: U :: .ptr 3 0 :: U :: U :: U :: U :: .d (.list (List.map encApiWord a0.Words)) :: .d (.int .i64 (a0.Words.length : Int)) :: .d (.int .i64 (i232 : Int)) :: U :: U :: U :: U :: U :: U :: U :: U :: U :: U :: U :: U :: U :: U :: U :: U :: U :: U :: U :: U :: U :: U :: U :: U :: U :: U :: U :: U :: U :: U :: U :: U :: U :: U :: U :: .d (.bool ((decide (e234.Value < 0)) || ((Int.tmod e234.Value 1000) != 0))) :: us 8) ⟨[[.d (.bool a0.Skip), .d (.list (List.map encApiWord a0.Words)), .d (.str a0.Comment)], [.mapc .u8 (List.map (ekv evB) v233.1)], [.mapc .i64 (List.map (ekv evB) v233.2)], [.d (.int .u8 e234.Letter), .d (.int .i64 e234.Value)]], []⟩ rfl ?_ ?_)
  refine SWs.region ?_
  rcases Bool.eq_false_or_eq_true (decide (e234.Value < 0)) with hb443 | hb443
  simp only [seval, SE, SL, PB, fld_77_1, sz_2, ag_2, hb443, ENMB]
  simp only [seval, SE, SL, PB, fld_77_1, sz_2, ag_2, hb443, ENMB]
  refine Mir.toK (.cond rfl (fun hb444 => ?_) (fun hb444 => ?_))
  refine .seqK (.region fun e h => ?_)
  simp only [seval, SE, ENMB]
  refine mU e ?_ h
  refine .ret fun e h => ?_
  cases h
  simp only [seval, SF, ENMB, Tryz.results95]
  refine .skip fun e h => ?_
  cases h
  simp only [seval, SF, ENMB, Tryz.results95]
  refine .skip fun e h => ?_
  cases h
  simp only [seval, SF, ENMB, Tryz.results95]
  intro v246
  refine Mir.toK (.seqK (.seqK (.regionW fun e h => regW.alt 3 rfl ?_)))
  simp only [seval, SE, w_none, w_eq, fld_77_0, sz_5, ag_5, ENMB]
  refine alt_lookup rfl rfl rfl (by simp only [mapT, und_180, und_5]) zero_4 rfl (regW.of ?_)
  simp only [seval, SE, w_none, w_eq, mg_B, ENMB]
  refine mU e ?_ h
  refine .cond rfl (fun hb446 => ?_) (fun hb446 => ?_)
  refine .seqK (.region fun e h => ?_)
  simp only [seval, SE, ENMB]
  refine mU e ?_ h
  refine .ret fun e h => ?_
  cases h
  simp only [seval, SF, ENMB, Tryz.results95]
  refine .skip (Mir.toK (.regionW fun e h => regW.alt 3 rfl ?_))
  simp only [seval, SE, w_none, w_eq, fld_77_0, sz_5, ag_5, ENMB]
  refine alt_mapUpdate (et := 4) rfl rfl rfl rfl (by simp only [mapT, und_180, und_5]) (regW.of ?_)
  simp only [seval, SE, w_none, w_eq, mp_B, ENMB]
  cases h
  simp only [seval, SF, ENMB, Tryz.results95]
  intro v242
  refine Mir.toK (.region fun e h => ?_)
  simp only [seval, SE, ENMB]
  cases h
  simp only [seval, SF, ENMB, Tryz.results95, qr392]
  intro v233 qd393
  refine .seqK (.region fun e h => ?_)
  simp only [seval, SE, qd393, ENMB]
  refine mU e ?_ h
  refine .seqK (.condF rfl (.exit fun e h => ?_))
  cases h
  simp only [seval, SF, ENMB, Tryz.results95]
  intro v175
  refine Mir.toK (.seqK (.region fun e h => ?_))
  simp only [seval, SE, ENMB]
  refine mU e ?_ h
  refine .ret fun e h => ?_
  cases h
  simp only [seval, SF, ENMB, Tryz.results95]

def md_put (a0 : ModalState) (a1 : ApiWord) : Option ModalState :=
  bindO (if (a1.Letter == 71) = true then
        bindO (bindO (md_Group a1.Value) fun (y104 : Int) =>
            guardO (decide (0 ≤ (IntKind.i64.wrap (y104 - 1)) ∧ (IntKind.i64.wrap (y104 - 1)) < 5)) (
            if ((IntKind.i64.wrap (y104 - 1)) == 0) = true then
              some (ModalState.mk a1.Value a0.Distance a0.Work a0.Length a0.Return a0.Feed a0.Tool a0.Offset)
            else
              if ((IntKind.i64.wrap (y104 - 1)) == 1) = true then
                some (ModalState.mk a0.Motion a1.Value a0.Work a0.Length a0.Return a0.Feed a0.Tool a0.Offset)
              else
                if ((IntKind.i64.wrap (y104 - 1)) == 2) = true then
                  some (ModalState.mk a0.Motion a0.Distance a1.Value a0.Length a0.Return a0.Feed a0.Tool a0.Offset)
                else
                  if ((IntKind.i64.wrap (y104 - 1)) == 3) = true then
                    some (ModalState.mk a0.Motion a0.Distance a0.Work a1.Value a0.Return a0.Feed a0.Tool a0.Offset)
                  else
                    some (ModalState.mk a0.Motion a0.Distance a0.Work a0.Length a1.Value a0.Feed a0.Tool a0.Offset))) fun (v105 : ModalState) =>
        some v105
      else
        if (a1.Letter == 70) = true then
          some (ModalState.mk a0.Motion a0.Distance a0.Work a0.Length a0.Return a1.Value a0.Tool a0.Offset)
        else
          if (a1.Letter == 84) = true then
            some (ModalState.mk a0.Motion a0.Distance a0.Work a0.Length a0.Return a0.Feed a1.Value a0.Offset)
          else
            if (a1.Letter == 72) = true then
              some (ModalState.mk a0.Motion a0.Distance a0.Work a0.Length a0.Return a0.Feed a0.Tool a1.Value)
            else
              some a0) fun (v103 : ModalState) =>
  some v103
theorem md_put_spec {a0 : ModalState} {a1 : ApiWord} {y : ModalState} (h : md_put a0 a1 = some y) : Spec gP 96 [.agg [.d (.int .i64 a0.Motion), .d (.int .i64 a0.Distance), .d (.int .i64 a0.Work), .d (.int .i64 a0.Length), .d (.int .i64 a0.Return), .d (.int .i64 a0.Feed), .d (.int .i64 a0.Tool), .d (.int .i64 a0.Offset)], .agg [.d (.int .u8 a1.Letter), .d (.int .i64 a1.Value)]] (.agg [.d (.int .i64 y.Motion), .d (.int .i64 y.Distance), .d (.int .i64 y.Work), .d (.int .i64 y.Length), .d (.int .i64 y.Return), .d (.int .i64 y.Feed), .d (.int .i64 y.Tool), .d (.int .i64 y.Offset)]) := by
  refine spec_mir Tryz.func96 rfl (by kernel_rfl) (by kernel_rfl) (fun y : ModalState => .agg [.d (.int .i64 y.Motion), .d (.int .i64 y.Distance), .d (.int .i64 y.Work), .d (.int .i64 y.Length), .d (.int .i64 y.Return), .d (.int .i64 y.Feed), .d (.int .i64 y.Tool), .d (.int .i64 y.Offset)]) ?_ h
  unfold md_put
  simp only [List.replicate, List.length, nS, nA, Tryz.ntmps96, SV]
  refine .seqK (.region fun e h => ?_)
  simp only [seval, SE, zero_57]
  refine mU e ?_ h
  refine .seqK (.seqK (.region fun e h => ?_))
  simp only [seval, SE, fld_77_0, sz_5, ag_5]
  refine mU e ?_ h
  refine Mir.joinO (fun v103 : ModalState => (U :: U :: .ptr 0 0 :: U :: .ptr 2 0 :: us 37)) (fun v103 => ⟨[[.d (.int .i64 v103.Motion), .d (.int .i64 v103.Distance), .d (.int .i64 v103.Work), .d (.int .i64 v103.Length), .d (.int .i64 v103.Return), .d (.int .i64 v103.Feed), .d (.int .i64 v103.Tool), .d (.int .i64 v103.Offset)], [.d (.int .u8 a1.Letter), .d (.int .i64 a1.Value)], [.d (.int .i64 0), .d (.int .i64 0), .d (.int .i64 0), .d (.int .i64 0), .d (.int .i64 0), .d (.int .i64 0), .d (.int .i64 0), .d (.int .i64 0)]], []⟩) (fun _ => rfl) ?_ ?_
  refine .block (.seqK (.region fun e h => ?_))
  simp only [seval, SE]
  refine mU e ?_ h
  refine .cond rfl (fun hb12 => ?_) (fun hb12 => ?_)
  refine .seqK (.region fun e h => ?_)
  simp only [seval, SE, fld_57_0, sz_2, fld_57_1, fld_57_2, fld_57_3, fld_57_4, und_183, sz_182, zero_182, (nr rfl : okLen 5 = true)]
  refine mU e ?_ h
  refine Mir.joinO (fun v105 : ModalState => (U :: U :: .ptr 0 0 :: U :: .ptr 2 0 :: us 37)) (fun v105 => ⟨[[.d (.int .i64 v105.Motion), .d (.int .i64 v105.Distance), .d (.int .i64 v105.Work), .d (.int .i64 v105.Length), .d (.int .i64 v105.Return), .d (.int .i64 v105.Feed), .d (.int .i64 v105.Tool), .d (.int .i64 v105.Offset)], [.d (.int .u8 a1.Letter), .d (.int .i64 a1.Value)], [.d (.int .i64 0), .d (.int .i64 0), .d (.int .i64 0), .d (.int .i64 0), .d (.int .i64 0), .d (.int .i64 0), .d (.int .i64 0), .d (.int .i64 0)], [.ptr 0 0, .ptr 0 1, .ptr 0 2, .ptr 0 3, .ptr 0 4]], []⟩) (fun _ => rfl) ?_ ?_
  refine .bind fun y104 hy13 => .guard fun qi14 => .ite (fun hb15 => ?_) (fun hb15 => ?_)
  refine .regionD [] (by kernel_rfl) fun e h => ?_
  simp only [seval, SE, SB, fld_77_1, sz_2, ag_2, hb15]
  refine Spec.by (md_Group_spec hy13) (by simp only [seval, SF, hb15]) ?_
  simp only [seval, SE, SB, und_183, (eq_of_beq hb15), sz_182, ag_182, fld_77_1, sz_2, ag_2, hb15]
  cases h
  simp only [seval, SF, hb15]
  refine .ite (fun hb16 => ?_) (fun hb16 => ?_)
  refine .regionD [] (by kernel_rfl) fun e h => ?_
  simp only [seval, SE, SB, fld_77_1, sz_2, ag_2, hb15, hb16]
  refine Spec.by (md_Group_spec hy13) (by simp only [seval, SF, hb15, hb16]) ?_
  simp only [seval, SE, SB, und_183, (eq_of_beq hb16), sz_182, ag_182, fld_77_1, sz_2, ag_2, hb15, hb16]
  cases h
  simp only [seval, SF, hb15, hb16]
  refine .ite (fun hb17 => ?_) (fun hb17 => ?_)
  refine .regionD [] (by kernel_rfl) fun e h => ?_
  simp only [seval, SE, SB, fld_77_1, sz_2, ag_2, hb15, hb16, hb17]
  refine Spec.by (md_Group_spec hy13) (by simp only [seval, SF, hb15, hb16, hb17]) ?_
  simp only [seval, SE, SB, und_183, (eq_of_beq hb17), sz_182, ag_182, fld_77_1, sz_2, ag_2, hb15, hb16, hb17]
  cases h
  simp only [seval, SF, hb15, hb16, hb17]
  refine .ite (fun hb18 => ?_) (fun hb18 => ?_)
  refine .regionD [] (by kernel_rfl) fun e h => ?_
  simp only [seval, SE, SB, fld_77_1, sz_2, ag_2, hb15, hb16, hb17, hb18]
  refine Spec.by (md_Group_spec hy13) (by simp only [seval, SF, hb15, hb16, hb17, hb18]) ?_
  simp only [seval, SE, SB, und_183, (eq_of_beq hb18), sz_182, ag_182, fld_77_1, sz_2, ag_2, hb15, hb16, hb17, hb18]
  cases h
  simp only [seval, SF, hb15, hb16, hb17, hb18]
  have hz19 : IntKind.i64.wrap (y104 - 1) = 4 := by have h0 := of_decide_eq_true qi14; have h1 := ne_of_beq_false hb15; have h2 := ne_of_beq_false hb16; have h3 := ne_of_beq_false hb17; have h4 := ne_of_beq_false hb18; omega
  refine .regionD [] (by kernel_rfl) fun e h => ?_
  simp only [seval, SE, SB, fld_77_1, sz_2, ag_2, hb15, hb16, hb17, hb18]
  refine Spec.by (md_Group_spec hy13) (by simp only [seval, SF, hb15, hb16, hb17, hb18]) ?_
  simp only [seval, SE, SB, und_183, hz19, sz_182, ag_182, fld_77_1, sz_2, ag_2, hb15, hb16, hb17, hb18]
  cases h
  simp only [seval, SF, hb15, hb16, hb17, hb18]
  intro v105
  intro e h
  cases h
  simp only [seval, SF, Tryz.results96, ag_57, sz_57]
  refine .seqK (.region fun e h => ?_)
  simp only [seval, SE]
  refine mU e ?_ h
  refine .cond rfl (fun hb20 => ?_) (fun hb20 => ?_)
  refine .region fun e h => ?_
  simp only [seval, SE, fld_77_1, sz_2, ag_2, fld_57_5]
  cases h
  simp only [seval, SF, Tryz.results96, ag_57, sz_57]
  refine .seqK (.region fun e h => ?_)
  simp only [seval, SE]
  refine mU e ?_ h
  refine .cond rfl (fun hb21 => ?_) (fun hb21 => ?_)
  refine .region fun e h => ?_
  simp only [seval, SE, fld_77_1, sz_2, ag_2, fld_57_6]
  cases h
  simp only [seval, SF, Tryz.results96, ag_57, sz_57]
  refine .seqK (.region fun e h => ?_)
  simp only [seval, SE]
  refine mU e ?_ h
  refine .cond rfl (fun hb22 => ?_) (fun hb22 => ?_)
  refine .region fun e h => ?_
  simp only [seval, SE, fld_77_1, sz_2, ag_2, fld_57_7]
  cases h
  simp only [seval, SF, Tryz.results96, ag_57, sz_57]
  refine .skip fun e h => ?_
  cases h
  simp only [seval, SF, Tryz.results96, ag_57, sz_57]
  intro v103
  refine Mir.toK (.seqK (.region fun e h => ?_))
  simp only [seval, SE, ag_57, sz_57]
  refine mU e ?_ h
  refine .ret fun e h => ?_
  cases h
  simp only [seval, SF, Tryz.results96, ag_57, sz_57]

def md_Apply (a0 : ModalState) (a1 : ApiBlock) : Option (ModalState × Int) :=
  bindO (md_Check a1) fun (y101 : Int) =>
  if (y101 != 0) = true then
    some (ModalState.mk 0 0 0 0 0 0 0 0, y101)
  else
    bindO (guardO (okIdx a1.Words) (
        rangeX (fun (i142 : Nat) (e144 : ApiWord) (v143 : ModalState) =>
          bindO (md_put v143 e144) fun (y146 : ModalState) =>
          some (.go y146)) (fun (v143 : ModalState) => some v143) a1.Words 0 a0)) fun (v124 : ModalState) =>
    some (v124, 0)
theorem md_Apply_spec {a0 : ModalState} {a1 : ApiBlock} {y : ModalState × Int} (h : md_Apply a0 a1 = some y) : Spec gP 51 [.agg [.d (.int .i64 a0.Motion), .d (.int .i64 a0.Distance), .d (.int .i64 a0.Work), .d (.int .i64 a0.Length), .d (.int .i64 a0.Return), .d (.int .i64 a0.Feed), .d (.int .i64 a0.Tool), .d (.int .i64 a0.Offset)], .agg [.d (.bool a1.Skip), .d (.list (List.map encApiWord a1.Words)), .d (.str a1.Comment)]] (.tuple [.agg [.d (.int .i64 y.1.Motion), .d (.int .i64 y.1.Distance), .d (.int .i64 y.1.Work), .d (.int .i64 y.1.Length), .d (.int .i64 y.1.Return), .d (.int .i64 y.1.Feed), .d (.int .i64 y.1.Tool), .d (.int .i64 y.1.Offset)], .d (.int .i64 y.2)]) := by
  refine spec_mir Tryz.func51 rfl (by kernel_rfl) (by kernel_rfl) (fun y : ModalState × Int => .tuple [.agg [.d (.int .i64 y.1.Motion), .d (.int .i64 y.1.Distance), .d (.int .i64 y.1.Work), .d (.int .i64 y.1.Length), .d (.int .i64 y.1.Return), .d (.int .i64 y.1.Feed), .d (.int .i64 y.1.Tool), .d (.int .i64 y.1.Offset)], .d (.int .i64 y.2)]) ?_ h
  unfold md_Apply
  simp only [List.replicate, List.length, nS, nA, Tryz.ntmps51, SV]
  refine .seqK (.region fun e h => ?_)
  simp only [seval, SE, zero_57, ENMB]
  refine mU e ?_ h
  refine .seqK (.seqK (.bind fun y101 hy1 => .region fun e h => ?_))
  simp only [seval, SE, ag_31, sz_31, ENMB]
  refine SpecS.by (md_Check_spec hy1) (by simp only [seval, SF, ENMB]) ?_
  simp only [seval, SE, ENMB]
  refine mU e ?_ h
  refine .seqK (.region fun e h => ?_)
  simp only [seval, SE, ENMB]
  refine mU e ?_ h
  refine .cond rfl (fun hb3 => ?_) (fun hb3 => ?_)
  refine .seqK (.region fun e h => ?_)
  simp only [seval, SE, zero_57, pl_57, sz_57, ENMB]
  refine mU e ?_ h
  refine .ret fun e h => ?_
  cases h
  simp only [seval, SF, ENMB, Tryz.results51, ag_57, sz_57]
  refine .skip (Mir.toK (.seqK (.seqK (.region fun e h => ?_))))
  simp only [seval, SE, fld_31_1, sz_29, ag_29, und_29, ENMB]
  refine mU e ?_ h
  refine Mir.joinO (fun v124 : ModalState => (U :: U :: .ptr 0 0 :: U :: .ptr 2 0 :: us 22)) (fun v124 => ⟨[[.d (.int .i64 v124.Motion), .d (.int .i64 v124.Distance), .d (.int .i64 v124.Work), .d (.int .i64 v124.Length), .d (.int .i64 v124.Return), .d (.int .i64 v124.Feed), .d (.int .i64 v124.Tool), .d (.int .i64 v124.Offset)], [.d (.bool a1.Skip), .d (.list (List.map encApiWord a1.Words)), .d (.str a1.Comment)], [.d (.int .i64 0), .d (.int .i64 0), .d (.int .i64 0), .d (.int .i64 0), .d (.int .i64 0), .d (.int .i64 0), .d (.int .i64 0), .d (.int .i64 0)]], []⟩) (fun _ => rfl) ?_ ?_
  refine .block (.guard fun qg47 => Mir.range (fun (i142 : Nat) (v143 : ModalState) => (U :: U :: .ptr 0 0 :: U :: .ptr 2 0 :: U :: U :: U :: U :: U :: U :: U :: U :: U :: U :: U :: .d (.list (List.map encApiWord a1.Words)) :: .d (.int .i64 (a1.Words.length : Int)) :: .d (.int .i64 (i142 : Int)) :: us 8)) (fun i142 v143 => ⟨[[.d (.int .i64 v143.Motion), .d (.int .i64 v143.Distance), .d (.int .i64 v143.Work), .d (.int .i64 v143.Length), .d (.int .i64 v143.Return), .d (.int .i64 v143.Feed), .d (.int .i64 v143.Tool), .d (.int .i64 v143.Offset)], [.d (.bool a1.Skip), .d (.list (List.map encApiWord a1.Words)), .d (.str a1.Comment)], [.d (.int .i64 0), .d (.int .i64 0), .d (.int .i64 0), .d (.int .i64 0), .d (.int .i64 0), .d (.int .i64 0), .d (.int .i64 0), .d (.int .i64 0)]], []⟩) qg47 (fun _ _ => rfl) (by simp only [seval, SF, ENMB, (nr rfl : ((0 : Nat) : Int) = 0)]) (by simp only [seval, SF, ENMB, (nr rfl : ((0 : Nat) : Int) = 0)]) ?_ ?_)
  intro i142 e144 v143 qr45
  refine .seqK (.region fun e h => ?_)
  simp only [seval, SE, qr45, ENMB]
  refine mU e ?_ h
  refine .seqK (.condT rfl (.skip (Mir.toK (.seqK (.block (.seqK (.region fun e h => ?_)))))))
  simp only [seval, SE, und_29, sz_77, qr45, Int.toNat_natCast, ag_77, zero_77, ENMB]
  refine mU e ?_ h
  refine .bind fun y146 hy49 => .region fun e h => ?_
  simp only [seval, SE, ag_57, sz_57, ag_77, sz_77, ENMB]
  refine SpecS.by (md_put_spec hy49) (by simp only [seval, SF, ENMB]) ?_
  simp only [seval, SE, sz_57, ENMB]
  refine mU e ?_ h
  refine .region fun e h => ?_
  simp only [seval, SE, ENMB]
  cases h
  simp only [seval, SF, ENMB, Tryz.results51, ag_57, sz_57, qr45]
  intro v143 qd46
  refine .seqK (.region fun e h => ?_)
  simp only [seval, SE, qd46, ENMB]
  refine mU e ?_ h
  refine .seqK (.condF rfl (.exit fun e h => ?_))
  cases h
  simp only [seval, SF, ENMB, Tryz.results51, ag_57, sz_57]
  intro v124
  refine Mir.toK (.seqK (.region fun e h => ?_))
  simp only [seval, SE, ag_57, sz_57, ENMB]
  refine mU e ?_ h
  refine .ret fun e h => ?_
  cases h
  simp only [seval, SF, ENMB, Tryz.results51, ag_57, sz_57]

def slices_Clone_api_Word_api_Word (a0 : List ApiWord) : Option (List ApiWord) := guardO (okLen a0.length) (some a0)
theorem slices_Clone_api_Word_api_Word_Yn {c0 : Nat} {y : List ApiWord} (h : (some []) = some y) : SpecY gP 63 [.d (.other (.slice none 0 c0))] 77 (List.map encApiWord y) := by
  refine specY_mir Tryz.func63 rfl (by kernel_rfl) (by kernel_rfl) (fun y : List ApiWord => List.map encApiWord y) (sc_map (fun _ => rfl) _) ?_ h
  simp only [List.replicate, List.length, nS, nA, Tryz.ntmps63, SV]
  refine .seqK (.region fun e h => ?_)
  simp only [seval, SE, ENMB]
  refine mU e ?_ h
  refine .seqK (.seqK (.region fun e h => ?_))
  simp only [seval, SE, und_29, ENMB]
  refine mU e ?_ h
  refine .condT rfl (.seqK (.region fun e h => ?_))
  simp only [seval, SE, ENMB]
  refine mU e ?_ h
  refine .ret fun e h => ?_
  cases h
  simp only [seval, SF, ENMB, Tryz.results63, fy_r, fy_n, yr_o, yr_n]
theorem slices_Clone_api_Word_api_Word_Yo {p0 : Addr} {c0 : Nat} {y : List ApiWord} (h : (some []) = some y) : SpecY gP 63 [.d (.other (.slice (some p0) 0 c0))] 77 (List.map encApiWord y) := by
  refine specY_mir Tryz.func63 rfl (by kernel_rfl) (by kernel_rfl) (fun y : List ApiWord => List.map encApiWord y) (sc_map (fun _ => rfl) _) ?_ h
  simp only [List.replicate, List.length, nS, nA, Tryz.ntmps63, SV]
  refine .seqK (.region fun e h => ?_)
  simp only [seval, SE, ENMB]
  refine mU e ?_ h
  refine .seqK (.seqK (.region fun e h => ?_))
  simp only [seval, SE, und_29, ENMB]
  refine mU e ?_ h
  refine .condF rfl (.skip (Mir.toK (.seqK (.regionW fun e h => regW.alt 0 rfl ?_))))
  simp only [seval, SE, w_none, w_eq, ENMB]
  refine alt_emptyOwn app_29 (regW.of ?_)
  simp only [seval, SE, w_none, w_eq, und_29, sz_77, zero_77, (nr rfl : okLen 0 = true), app_29, al_ApiWord, ENMB]
  refine mU e ?_ h
  refine .ret fun e h => ?_
  cases h
  simp only [seval, SF, ENMB, Tryz.results63, fy_r, fy_n, yr_o, yr_n]
theorem slices_Clone_api_Word_api_Word_Yc {x0 : ApiWord} {l0 : List ApiWord} {y : List ApiWord} (h : (guardO (okLen (0 + (x0 :: l0).length)) (   some ([] ++ (x0 :: l0)))) = some y) : SpecY gP 63 [.d (.list (List.map encApiWord (x0 :: l0)))] 77 (List.map encApiWord y) := by
  refine specY_mir Tryz.func63 rfl (by kernel_rfl) (by kernel_rfl) (fun y : List ApiWord => List.map encApiWord y) (sc_map (fun _ => rfl) _) ?_ h
  simp only [List.replicate, List.length, nS, nA, Tryz.ntmps63, SV]
  refine .seqK (.region fun e h => ?_)
  simp only [seval, SE, ENMB]
  refine mU e ?_ h
  refine .seqK (.seqK (.region fun e h => ?_))
  simp only [seval, SE, und_29, ENMB]
  refine mU e ?_ h
  refine .condF rfl (.skip (Mir.toK (.seqK (.guard fun q1 => .regionW fun e h => regW.alt 0 rfl ?_))))
  simp only [seval, SE, w_none, w_eq, ENMB]
  refine alt_emptyOwn app_29 (regW.of ?_)
  simp only [seval, SE, w_none, w_eq, und_29, sz_77, zero_77, (nr rfl : okLen 0 = true), app_29, al_ApiWord, q1, ENMB]
  refine mU e ?_ h
  refine .ret fun e h => ?_
  cases h
  simp only [seval, SF, ENMB, Tryz.results63, fy_r, fy_n, yr_o, yr_n]
theorem slices_Clone_api_Word_api_Word_specY {a0 : List ApiWord} {y : List ApiWord} (h : slices_Clone_api_Word_api_Word a0 = some y) : SpecY gP 63 [.d (.list (List.map encApiWord a0))] 77 (List.map encApiWord y) := by
  obtain ⟨hl, h⟩ := guardO_some h
  cases h
  cases a0 with
  | nil =>
    refine SpecY.nilcase fun A c => ?_
    cases A with
    | none => exact slices_Clone_api_Word_api_Word_Yn rfl
    | some p => exact slices_Clone_api_Word_api_Word_Yo rfl
  | cons x l => exact slices_Clone_api_Word_api_Word_Yc (by simp only [guardO, Nat.zero_add, List.nil_append, hl])

def md_idle (a0 : ModalState) (a1 : ApiWord) : Option Bool :=
  bindX (if (a1.Letter == 71) = true then
        if ((decide (a1.Value ≥ 80000)) && (decide (a1.Value ≤ 83000))) = true then
          some (.ret false)
        else
          some (.go ())
      else
        bindO (if (a1.Letter == 70) = true then
              some (a1.Letter == 70)
            else
              if (a1.Letter == 84) = true then
                some (a1.Letter == 84)
              else
                some (a1.Letter == 72)) fun (v103 : Bool) =>
        if v103 = true then
          some (.go ())
        else
          some (.ret false)) fun (v102 : Unit) =>
  bindO (md_put a0 a1) fun (y104 : ModalState) =>
  some ((y104.Motion == a0.Motion) && ((y104.Distance == a0.Distance) && ((y104.Work == a0.Work) && ((y104.Length == a0.Length) && ((y104.Return == a0.Return) && ((y104.Feed == a0.Feed) && ((y104.Tool == a0.Tool) && (y104.Offset == a0.Offset))))))))
theorem md_idle_spec {a0 : ModalState} {a1 : ApiWord} {y : Bool} (h : md_idle a0 a1 = some y) : Spec gP 83 [.agg [.d (.int .i64 a0.Motion), .d (.int .i64 a0.Distance), .d (.int .i64 a0.Work), .d (.int .i64 a0.Length), .d (.int .i64 a0.Return), .d (.int .i64 a0.Feed), .d (.int .i64 a0.Tool), .d (.int .i64 a0.Offset)], .agg [.d (.int .u8 a1.Letter), .d (.int .i64 a1.Value)]] (.d (.bool y)) := by
  refine spec_mir Tryz.func83 rfl (by kernel_rfl) (by kernel_rfl) (fun y : Bool => .d (.bool y)) ?_ h
  unfold md_idle
  simp only [List.replicate, List.length, nS, nA, Tryz.ntmps83, SV]
  refine .seqK (.region fun e h => ?_)
  simp only [seval, SE]
  refine mU e ?_ h
  refine .seqK (.seqK (.region fun e h => ?_))
  simp only [seval, SE, fld_77_0, sz_5, ag_5]
  refine mU e ?_ h
  refine Mir.join (fun v102 : Unit => (U :: U :: .ptr 0 0 :: .ptr 1 0 :: us 22)) (fun v102 => ⟨[[.d (.int .i64 a0.Motion), .d (.int .i64 a0.Distance), .d (.int .i64 a0.Work), .d (.int .i64 a0.Length), .d (.int .i64 a0.Return), .d (.int .i64 a0.Feed), .d (.int .i64 a0.Tool), .d (.int .i64 a0.Offset)], [.d (.int .u8 a1.Letter), .d (.int .i64 a1.Value)]], []⟩) (fun _ => rfl) ?_ ?_
  refine .block (.seqK (.region fun e h => ?_))
  simp only [seval, SE]
  refine mU e ?_ h
  refine .cond rfl (fun hb9 => ?_) (fun hb9 => ?_)
  refine .seqK (.joinV (U :: U :: .ptr 0 0 :: .ptr 1 0 :: U :: U :: U :: U :: U :: U :: U :: U :: U :: U :: U :: U :: .d (.bool ((decide (a1.Value ≥ 80000)) && (decide (a1.Value ≤ 83000)))) :: us 9) ⟨[[.d (.int .i64 a0.Motion), .d (.int .i64 a0.Distance), .d (.int .i64 a0.Work), .d (.int .i64 a0.Length), .d (.int .i64 a0.Return), .d (.int .i64 a0.Feed), .d (.int .i64 a0.Tool), .d (.int .i64 a0.Offset)], [.d (.int .u8 a1.Letter), .d (.int .i64 a1.Value)]], []⟩ rfl ?_ ?_)
  refine SWs.region ?_
  rcases Bool.eq_false_or_eq_true (decide (a1.Value ≥ 80000)) with hb10 | hb10
  simp only [seval, SE, SL, PB, fld_77_1, sz_2, ag_2, hb10]
  simp only [seval, SE, SL, PB, fld_77_1, sz_2, ag_2, hb10]
  refine Mir.toK (.cond rfl (fun hb11 => ?_) (fun hb11 => ?_))
  refine .seqK (.region fun e h => ?_)
  simp only [seval, SE]
  refine mU e ?_ h
  refine .ret fun e h => ?_
  cases h
  simp only [seval, SF, Tryz.results83]
  refine .skip fun e h => ?_
  cases h
  simp only [seval, SF, Tryz.results83]
  refine .seqK (.seqK (.region fun e h => ?_))
  simp only [seval, SE]
  refine mU e ?_ h
  refine Mir.joinO (fun v103 : Bool => (U :: U :: .ptr 0 0 :: .ptr 1 0 :: U :: U :: U :: U :: U :: U :: U :: U :: U :: U :: U :: U :: U :: .d (.bool v103) :: us 8)) (fun v103 => ⟨[[.d (.int .i64 a0.Motion), .d (.int .i64 a0.Distance), .d (.int .i64 a0.Work), .d (.int .i64 a0.Length), .d (.int .i64 a0.Return), .d (.int .i64 a0.Feed), .d (.int .i64 a0.Tool), .d (.int .i64 a0.Offset)], [.d (.int .u8 a1.Letter), .d (.int .i64 a1.Value)]], []⟩) (fun _ => rfl) ?_ ?_
  refine .cond rfl (fun hb14 => ?_) (fun hb14 => ?_)
  refine .skip fun e h => ?_
  cases h
  simp only [seval, SF, Tryz.results83]
  refine .seqK (.region fun e h => ?_)
  simp only [seval, SE]
  refine mU e ?_ h
  refine .cond rfl (fun hb15 => ?_) (fun hb15 => ?_)
  refine .skip fun e h => ?_
  cases h
  simp only [seval, SF, Tryz.results83]
  refine .region fun e h => ?_
  simp only [seval, SE]
  cases h
  simp only [seval, SF, Tryz.results83]
  intro v103
  refine Mir.toK (.cond rfl (fun hb16 => ?_) (fun hb16 => ?_))
  refine .skip fun e h => ?_
  cases h
  simp only [seval, SF, Tryz.results83]
  refine .seqK (.region fun e h => ?_)
  simp only [seval, SE]
  refine mU e ?_ h
  refine .ret fun e h => ?_
  cases h
  simp only [seval, SF, Tryz.results83]
  intro v102
  refine Mir.toK (.seqK (.bind fun y104 hy17 => .regionD [] (by kernel_rfl) fun e h => ?_))
  simp only [seval, SE, SB, ag_57, sz_57, ag_77, sz_77]
  refine Spec.by (md_put_spec hy17) (by simp only [seval, SF]) ?_
  simp only [seval, SE, SB, ag_57, sz_57, gE_57]
  refine mU e ?_ h
  refine .ret fun e h => ?_
  cases h
  simp only [seval, SF, Tryz.results83]

def md_Compress (a0 : ModalState) (a1 : (List ApiBlock)) : Option ((List ApiBlock) × Int) :=
  bindX (guardO (okIdx a1) (
      rangeX (fun (i3432 : Nat) (e3434 : ApiBlock) (v3433 : (List ApiBlock) × ModalState) =>
        bindO (md_Apply v3433.2 e3434) fun (y3572 : ModalState × Int) =>
        if (y3572.2 != 0) = true then
          some (.ret (.ret ([], y3572.2)))
        else
          bindO (slices_Clone_api_Word_api_Word e3434.Words) fun (y3573 : (List ApiWord)) =>
          bindO (bindO (bindX (guardO (okIdx y3573) (
                      rangeX (fun (i3830 : Nat) (e3832 : ApiWord) (v3831 : Unit) =>
                        bindO (gt y3573 (i3830 : Int)) fun (e3836 : ApiWord) =>
                        bindO (bindO (md_idle v3433.2 e3836) fun (y3839 : Bool) =>
                            some y3839) fun (v3838 : Bool) =>
                        if v3838 = true then
                          some (.ret (.ret (i3830 : Int)))
                        else
                          some (.go ())) (fun (v3831 : Unit) => some (.go ())) y3573 0 ())) fun (v3806 : Unit) =>
                  some (-1)) fun (v3773 : Int) =>
              if (v3773 == (-1)) = true then
                some y3573
              else
                bindO (loopX (fun (v3897 : Int × Int × (List ApiWord)) =>
                      if (decide (v3897.2.1 < (v3897.2.2.length : Int))) = true then
                        bindO (bindO (gt v3897.2.2 v3897.2.1) fun (e3903 : ApiWord) =>
                            bindO (bindO (md_idle v3433.2 e3903) fun (y3906 : Bool) =>
                                some y3906) fun (v3905 : Bool) =>
                            if (!v3905) = true then
                              bindO (gt v3897.2.2 v3897.1) fun (e3907 : ApiWord) =>
                              some (IntKind.i64.wrap (v3897.1 + 1), v3897.2.2.set (Int.toNat v3897.1) e3903)
                            else
                              some (v3897.1, v3897.2.2)) fun (v3902 : Int × (List ApiWord)) =>
                        some (.go (v3902.1, IntKind.i64.wrap (v3897.2.1 + 1), v3902.2))
                      else
                        some (.ret (v3897.1, v3897.2.2))) fuel (v3773, IntKind.i64.wrap (v3773 + 1), y3573)) fun (v3873 : Int × (List ApiWord)) =>
                guardO (decide ((0 : Int) ≤ v3873.1 ∧ v3873.1 ≤ (v3873.2.length : Int) ∧ (v3873.2.length : Int) ≤ ((v3873.2.length : Nat) : Int))) (
                guardO (decide ((0 : Int) ≤ (0 : Int) ∧ (0 : Int) ≤ v3873.1 ∧ v3873.1 ≤ (((v3873.2.take (0 + (Int.toNat v3873.1)) ++ List.replicate (v3873.2.length - (Int.toNat v3873.1)) (ApiWord.mk 0 0) ++ v3873.2.drop ((0 + (Int.toNat v3873.1)) + (v3873.2.length - (Int.toNat v3873.1)))).length : Nat) : Int))) (
                some (List.take ((Int.toNat v3873.1) - 0) (List.drop (0 + 0) (v3873.2.take (0 + (Int.toNat v3873.1)) ++ List.replicate (v3873.2.length - (Int.toNat v3873.1)) (ApiWord.mk 0 0) ++ v3873.2.drop ((0 + (Int.toNat v3873.1)) + (v3873.2.length - (Int.toNat v3873.1))))))))) fun (v3707 : (List ApiWord)) =>
          bindO (if ((decide ((v3707.length : Int) > 0)) || (!(e3434.Comment == []) || e3434.Skip)) = true then
                guardO (okLen (v3433.1.length + 1)) (
                some (v3433.1 ++ [ApiBlock.mk e3434.Skip v3707 e3434.Comment]))
              else
                some v3433.1) fun (v3908 : (List ApiBlock)) =>
          some (.go (v3908, y3572.1))) (fun (v3433 : (List ApiBlock) × ModalState) => some (.go (v3433.1, v3433.2))) a1 0 ([], a0))) fun (v2598 : (List ApiBlock) × ModalState) =>
  some (v2598.1, 0)
set_option maxHeartbeats 8000000 in
theorem md_Compress_spec {a0 : ModalState} {a1 : (List ApiBlock)} {y : (List ApiBlock) × Int} (h : md_Compress a0 a1 = some y) : Spec gP 41 [.agg [.d (.int .i64 a0.Motion), .d (.int .i64 a0.Distance), .d (.int .i64 a0.Work), .d (.int .i64 a0.Length), .d (.int .i64 a0.Return), .d (.int .i64 a0.Feed), .d (.int .i64 a0.Tool), .d (.int .i64 a0.Offset)], .d (.list (List.map encApiBlock a1))] (.tuple [.d (.list (List.map encApiBlock y.1)), .d (.int .i64 y.2)]) := by
  refine spec_mir Tryz.func41 rfl (by kernel_rfl) (by kernel_rfl) (fun y : (List ApiBlock) × Int => .tuple [.d (.list (List.map encApiBlock y.1)), .d (.int .i64 y.2)]) ?_ h
  unfold md_Compress
  simp only [List.replicate, List.length, nS, nA, Tryz.ntmps41, SV]
  refine .seqK (.region fun e h => ?_)
  simp only [seval, SE, ENMB, rmap_set, spD]
  refine mU e ?_ h
  refine .seqK (.region fun e h => ?_)
  simp only [seval, SE, ENMB, rmap_set, spD]
  refine mU e ?_ h
  refine .seqK (.seqK (.region fun e h => ?_))
  simp only [seval, SE, und_39, ENMB, rmap_set, spD]
  refine mU e ?_ h
  refine .gh [.slot 6 31] rfl (Mir.join (fun v2598 : (List ApiBlock) × ModalState => (U :: U :: U :: U :: U :: U :: .own 0 (List.map encApiBlock v2598.1) :: us 47)) (fun v2598 => ⟨[[.d (.int .i64 v2598.2.Motion), .d (.int .i64 v2598.2.Distance), .d (.int .i64 v2598.2.Work), .d (.int .i64 v2598.2.Length), .d (.int .i64 v2598.2.Return), .d (.int .i64 v2598.2.Feed), .d (.int .i64 v2598.2.Tool), .d (.int .i64 v2598.2.Offset)]], [(31, v2598.1.length)]⟩) (fun _ => rfl) ?_ ?_)
  refine .block (.guard fun qg4307 => Mir.range (fun (i3432 : Nat) (v3433 : (List ApiBlock) × ModalState) => (U :: U :: .ptr 0 0 :: U :: U :: U :: .own 0 (List.map encApiBlock v3433.1) :: U :: U :: U :: U :: U :: .d (.list (List.map encApiBlock a1)) :: .d (.int .i64 (a1.length : Int)) :: .d (.int .i64 (i3432 : Int)) :: us 39)) (fun i3432 v3433 => ⟨[[.d (.int .i64 v3433.2.Motion), .d (.int .i64 v3433.2.Distance), .d (.int .i64 v3433.2.Work), .d (.int .i64 v3433.2.Length), .d (.int .i64 v3433.2.Return), .d (.int .i64 v3433.2.Feed), .d (.int .i64 v3433.2.Tool), .d (.int .i64 v3433.2.Offset)]], [(31, v3433.1.length)]⟩) qg4307 (fun _ _ => rfl) (by simp only [seval, SF, ENMB, rmap_set, spD, (nr rfl : ((0 : Nat) : Int) = 0)]) (by simp only [seval, SF, ENMB, rmap_set, spD, (nr rfl : ((0 : Nat) : Int) = 0)]) ?_ ?_)
  intro i3432 e3434 v3433 qr4305
  refine .seqK (.region fun e h => ?_)
  simp only [seval, SE, qr4305, ENMB, rmap_set, spD]
  refine mU e ?_ h
  refine .seqK (.condT rfl (.skip (Mir.toK (.seqK (.block (.seqK (.region fun e h => ?_)))))))
  simp only [seval, SE, und_39, sz_31, qr4305, Int.toNat_natCast, ag_31, zero_31, ENMB, rmap_set, spD]
  refine mU e ?_ h
  refine .seqK (.bind fun y3572 hy4486 => .region fun e h => ?_)
  simp only [seval, SE, ag_57, sz_57, ag_31, sz_31, ENMB, rmap_set, spD]
  refine SpecS.by (md_Apply_spec hy4486) (by simp only [seval, SF, ENMB, rmap_set, spD]) ?_
  simp only [seval, SE, zero_57, sz_57, ENMB, rmap_set, spD]
  refine mU e ?_ h
  refine .seqK (.seqK (.region fun e h => ?_))
  simp only [seval, SE, ENMB, rmap_set, spD]
  refine mU e ?_ h
  refine .cond rfl (fun hb4488 => ?_) (fun hb4488 => ?_)
  refine .seqK (.region fun e h => ?_)
  simp only [seval, SE, ENMB, rmap_set, spD]
  refine mU e ?_ h
  refine .ret fun e h => ?_
  cases h
  simp only [seval, SF, ENMB, rmap_set, spD, Tryz.results41]
  refine .skip (Mir.toK (.seqK (.region fun e h => ?_)))
  simp only [seval, SE, ag_31, sz_31, zero_31, ENMB, rmap_set, spD]
  refine mU e ?_ h
  refine .seqK (.bind fun y3573 hy4489 => .bind fun v3707 hv4657 => .region fun e h => ?_)
  simp only [seval, SE, fld_31_1, sz_29, ag_29, ENMB, rmap_set, spD]
  refine SpecY.toS (slices_Clone_api_Word_api_Word_specY hy4489) (by simp only [seval, SF, ENMB, rmap_set, spD]) ?_
  simp only [seval, SE, ENMB, rmap_set, spD]
  refine SpecS.inl Tryz.func81 rfl (by kernel_rfl) (by kernel_rfl) (fun v3707 : (List ApiWord) => .d (.list (List.map encApiWord v3707))) (fun v3707 => ⟨[[.d (.int .i64 v3433.2.Motion), .d (.int .i64 v3433.2.Distance), .d (.int .i64 v3433.2.Work), .d (.int .i64 v3433.2.Length), .d (.int .i64 v3433.2.Return), .d (.int .i64 v3433.2.Feed), .d (.int .i64 v3433.2.Tool), .d (.int .i64 v3433.2.Offset)], [.d (.bool e3434.Skip), .d (.list (List.map encApiWord e3434.Words)), .d (.str e3434.Comment)], [.d (.int .i64 y3572.1.Motion), .d (.int .i64 y3572.1.Distance), .d (.int .i64 y3572.1.Work), .d (.int .i64 y3572.1.Length), .d (.int .i64 y3572.1.Return), .d (.int .i64 y3572.1.Feed), .d (.int .i64 y3572.1.Tool), .d (.int .i64 y3572.1.Offset)], [.d (.bool e3434.Skip), .d (.list (List.map encApiWord e3434.Words)), .d (.str e3434.Comment)], [.rowc 77 1 (List.map encApiWord [])]], [(31, v3433.1.length)]⟩) hv4657 rfl ?_ ?_
  simp only [List.replicate, List.length, nS, nA, Tryz.ntmps81, SV]
  refine .seqK (.region fun e h => ?_)
  simp only [seval, SE, ENMB, rmap_set, spD]
  refine mU e ?_ h
  refine .seqK (.bind fun v3773 hv4748 => .region fun e h => ?_)
  simp only [seval, SE, ENMB, rmap_set, spD]
  refine SpecS.inl Tryz.func122 rfl (by kernel_rfl) (by kernel_rfl) (fun v3773 : Int => .d (.int .i64 v3773)) (fun v3773 => ⟨[[.d (.int .i64 v3433.2.Motion), .d (.int .i64 v3433.2.Distance), .d (.int .i64 v3433.2.Work), .d (.int .i64 v3433.2.Length), .d (.int .i64 v3433.2.Return), .d (.int .i64 v3433.2.Feed), .d (.int .i64 v3433.2.Tool), .d (.int .i64 v3433.2.Offset)], [.d (.bool e3434.Skip), .d (.list (List.map encApiWord e3434.Words)), .d (.str e3434.Comment)], [.d (.int .i64 y3572.1.Motion), .d (.int .i64 y3572.1.Distance), .d (.int .i64 y3572.1.Work), .d (.int .i64 y3572.1.Length), .d (.int .i64 y3572.1.Return), .d (.int .i64 y3572.1.Feed), .d (.int .i64 y3572.1.Tool), .d (.int .i64 y3572.1.Offset)], [.d (.bool e3434.Skip), .d (.list (List.map encApiWord e3434.Words)), .d (.str e3434.Comment)], [.rowc 77 0 (List.map encApiWord y3573)]], [(31, v3433.1.length)]⟩) hv4748 rfl ?_ ?_
  simp only [List.replicate, List.length, nS, nA, Tryz.ntmps122, SV]
  refine .seqK (.region fun e h => ?_)
  simp only [seval, SE, ENMB, rmap_set, spD]
  refine mU e ?_ h
  refine .seqK (.seqK (.regionW fun e h => regW.alt 1 rfl ?_))
  simp only [seval, SE, w_none, w_eq, ENMB, rmap_set, spD]
  refine alt_lenR rfl rfl und_29 (regW.of ?_)
  simp only [seval, SE, w_none, w_eq, und_29, ENMB, rmap_set, spD]
  refine mU e ?_ h
  refine Mir.join (fun v3806 : Unit => (us 19)) (fun v3806 => ⟨[[.d (.int .i64 v3433.2.Motion), .d (.int .i64 v3433.2.Distance), .d (.int .i64 v3433.2.Work), .d (.int .i64 v3433.2.Length), .d (.int .i64 v3433.2.Return), .d (.int .i64 v3433.2.Feed), .d (.int .i64 v3433.2.Tool), .d (.int .i64 v3433.2.Offset)], [.d (.bool e3434.Skip), .d (.list (List.map encApiWord e3434.Words)), .d (.str e3434.Comment)], [.d (.int .i64 y3572.1.Motion), .d (.int .i64 y3572.1.Distance), .d (.int .i64 y3572.1.Work), .d (.int .i64 y3572.1.Length), .d (.int .i64 y3572.1.Return), .d (.int .i64 y3572.1.Feed), .d (.int .i64 y3572.1.Tool), .d (.int .i64 y3572.1.Offset)], [.d (.bool e3434.Skip), .d (.list (List.map encApiWord e3434.Words)), .d (.str e3434.Comment)], [.rowc 77 0 (List.map encApiWord y3573)]], [(31, v3433.1.length)]⟩) (fun _ => rfl) ?_ ?_
  refine .block (.guard fun qg4829 => Mir.range (fun (i3830 : Nat) (v3831 : Unit) => (.gr 4 0 :: .fn 82 [.ptr 0 0] :: U :: U :: U :: U :: U :: .d (.int .i64 (y3573.length : Int)) :: .d (.int .i64 (i3830 : Int)) :: us 10)) (fun i3830 v3831 => ⟨[[.d (.int .i64 v3433.2.Motion), .d (.int .i64 v3433.2.Distance), .d (.int .i64 v3433.2.Work), .d (.int .i64 v3433.2.Length), .d (.int .i64 v3433.2.Return), .d (.int .i64 v3433.2.Feed), .d (.int .i64 v3433.2.Tool), .d (.int .i64 v3433.2.Offset)], [.d (.bool e3434.Skip), .d (.list (List.map encApiWord e3434.Words)), .d (.str e3434.Comment)], [.d (.int .i64 y3572.1.Motion), .d (.int .i64 y3572.1.Distance), .d (.int .i64 y3572.1.Work), .d (.int .i64 y3572.1.Length), .d (.int .i64 y3572.1.Return), .d (.int .i64 y3572.1.Feed), .d (.int .i64 y3572.1.Tool), .d (.int .i64 y3572.1.Offset)], [.d (.bool e3434.Skip), .d (.list (List.map encApiWord e3434.Words)), .d (.str e3434.Comment)], [.rowc 77 0 (List.map encApiWord y3573)]], [(31, v3433.1.length)]⟩) qg4829 (fun _ _ => rfl) (by simp only [seval, SF, ENMB, rmap_set, spD, (nr rfl : ((0 : Nat) : Int) = 0)]) (by simp only [seval, SF, ENMB, rmap_set, spD, (nr rfl : ((0 : Nat) : Int) = 0)]) ?_ ?_)
  intro i3830 e3832 v3831 qr4827
  refine .seqK (.region fun e h => ?_)
  simp only [seval, SE, qr4827, ENMB, rmap_set, spD]
  refine mU e ?_ h
  refine .seqK (.condT rfl (.skip (Mir.toK (.seqK (.block (.seqK (.region fun e h => ?_)))))))
  simp only [seval, SE, ENMB, rmap_set, spD]
  refine mU e ?_ h
  refine .seqK (.bind fun e3836 q4834 => ?_)
  replace q4834 := gt_ok q4834
  refine .bind fun v3838 hv4836 => .regionW fun e h => regW.alt 3 rfl ?_
  simp only [seval, SE, w_none, w_eq, ENMB, rmap_set, spD]
  refine alt_indexR rfl rfl rfl und_29 sz_77 (row_lo q4834.1) (row_hi q4834.2 q4834.1) (regW.alt 0 rfl ?_)
  simp only [seval, SE, w_none, w_eq, und_29, sz_77, ENMB, rmap_set, spD]
  refine alt_loadR rfl rfl (row_at q4834.2) (by simp only [↓reduceIte, nA, nL, pt_eq, ag_77, sz_77, dc_cons, dc_nil, SV, encApiWord] <;> rfl) (regW.of ?_)
  simp only [seval, SE, w_none, w_eq, ag_77, sz_77, ENMB, rmap_set, spD]
  refine SpecS.inl Tryz.func82 rfl (by kernel_rfl) (by kernel_rfl) (fun v3838 : Bool => .d (.bool v3838)) (fun v3838 => ⟨[[.d (.int .i64 v3433.2.Motion), .d (.int .i64 v3433.2.Distance), .d (.int .i64 v3433.2.Work), .d (.int .i64 v3433.2.Length), .d (.int .i64 v3433.2.Return), .d (.int .i64 v3433.2.Feed), .d (.int .i64 v3433.2.Tool), .d (.int .i64 v3433.2.Offset)], [.d (.bool e3434.Skip), .d (.list (List.map encApiWord e3434.Words)), .d (.str e3434.Comment)], [.d (.int .i64 y3572.1.Motion), .d (.int .i64 y3572.1.Distance), .d (.int .i64 y3572.1.Work), .d (.int .i64 y3572.1.Length), .d (.int .i64 y3572.1.Return), .d (.int .i64 y3572.1.Feed), .d (.int .i64 y3572.1.Tool), .d (.int .i64 y3572.1.Offset)], [.d (.bool e3434.Skip), .d (.list (List.map encApiWord e3434.Words)), .d (.str e3434.Comment)], [.rowc 77 0 (List.map encApiWord y3573)]], [(31, v3433.1.length)]⟩) hv4836 rfl ?_ ?_
  simp only [List.replicate, List.length, nS, nA, Tryz.ntmps82, SV]
  refine .seqK (.region fun e h => ?_)
  simp only [seval, SE, ENMB, rmap_set, spD]
  refine mU e ?_ h
  refine .seqK (.bind fun y3839 hy4837 => .region fun e h => ?_)
  simp only [seval, SE, ag_57, sz_57, ag_77, sz_77, ENMB, rmap_set, spD]
  refine SpecS.by (md_idle_spec hy4837) (by simp only [seval, SF, ENMB, rmap_set, spD]) ?_
  simp only [seval, SE, ENMB, rmap_set, spD]
  refine mU e ?_ h
  refine .ret fun e h => ?_
  cases h
  simp only [seval, SF, ENMB, rmap_set, spD, Tryz.results82]
  simp only [seval, SE, w_none, w_eq, ENMB, rmap_set, spD]
  refine mU e ?_ h
  refine .cond rfl (fun hb4839 => ?_) (fun hb4839 => ?_)
  refine .seqK (.region fun e h => ?_)
  simp only [seval, SE, ENMB, rmap_set, spD]
  refine mU e ?_ h
  refine .ret fun e h => ?_
  cases h
  simp only [seval, SF, ENMB, rmap_set, spD, Tryz.results122]
  refine .skip (Mir.toB (Mir.toK (.region fun e h => ?_)))
  simp only [seval, SE, ENMB, rmap_set, spD]
  cases h
  simp only [seval, SF, ENMB, rmap_set, spD, Tryz.results122, qr4827]
  intro v3831 qd4828
  refine .seqK (.region fun e h => ?_)
  simp only [seval, SE, qd4828, ENMB, rmap_set, spD]
  refine mU e ?_ h
  refine .seqK (.condF rfl (.exit fun e h => ?_))
  cases h
  simp only [seval, SF, ENMB, rmap_set, spD, Tryz.results122]
  intro v3806
  refine Mir.toK (.seqK (.region fun e h => ?_))
  simp only [seval, SE, ENMB, rmap_set, spD]
  refine mU e ?_ h
  refine .ret fun e h => ?_
  cases h
  simp only [seval, SF, ENMB, rmap_set, spD, Tryz.results122]
  simp only [seval, SE, ENMB, rmap_set, spD]
  refine mU e ?_ h
  refine .seqK (.seqK (.region fun e h => ?_))
  simp only [seval, SE, ENMB, rmap_set, spD]
  refine mU e ?_ h
  refine .cond rfl (fun hb4841 => ?_) (fun hb4841 => ?_)
  refine .seqK (.region fun e h => ?_)
  simp only [seval, SE, ENMB, rmap_set, spD]
  refine mU e ?_ h
  refine .frz 4 rfl ?_
  simp only [↓reduceIte, reduceCtorEq, nA, nE, and_self, and_true, true_and, and_false, false_and, SZ]
  refine .ret fun e h => ?_
  cases h
  simp only [seval, SF, ENMB, rmap_set, spD, Tryz.results81]
  refine .skip (Mir.toK (.seqK (.seqK (.region fun e h => ?_))))
  simp only [seval, SE, ENMB, rmap_set, spD]
  refine mU e ?_ h
  refine Mir.joinO (fun v3873 : Int × (List ApiWord) => (.gr 4 0 :: U :: U :: U :: U :: .d (.int .i64 v3873.1) :: us 36)) (fun v3873 => ⟨[[.d (.int .i64 v3433.2.Motion), .d (.int .i64 v3433.2.Distance), .d (.int .i64 v3433.2.Work), .d (.int .i64 v3433.2.Length), .d (.int .i64 v3433.2.Return), .d (.int .i64 v3433.2.Feed), .d (.int .i64 v3433.2.Tool), .d (.int .i64 v3433.2.Offset)], [.d (.bool e3434.Skip), .d (.list (List.map encApiWord e3434.Words)), .d (.str e3434.Comment)], [.d (.int .i64 y3572.1.Motion), .d (.int .i64 y3572.1.Distance), .d (.int .i64 y3572.1.Work), .d (.int .i64 y3572.1.Length), .d (.int .i64 y3572.1.Return), .d (.int .i64 y3572.1.Feed), .d (.int .i64 y3572.1.Tool), .d (.int .i64 y3572.1.Offset)], [.d (.bool e3434.Skip), .d (.list (List.map encApiWord e3434.Words)), .d (.str e3434.Comment)], [.rowc 77 0 (List.map encApiWord v3873.2)]], [(31, v3433.1.length)]⟩) (fun _ => rfl) ?_ ?_
  refine .block (Mir.loop (fun v3897 : Int × Int × (List ApiWord) => (.gr 4 0 :: .fn 82 [.ptr 0 0] :: U :: U :: U :: .d (.int .i64 v3897.1) :: .d (.int .i64 v3897.2.1) :: us 35)) (fun v3897 => ⟨[[.d (.int .i64 v3433.2.Motion), .d (.int .i64 v3433.2.Distance), .d (.int .i64 v3433.2.Work), .d (.int .i64 v3433.2.Length), .d (.int .i64 v3433.2.Return), .d (.int .i64 v3433.2.Feed), .d (.int .i64 v3433.2.Tool), .d (.int .i64 v3433.2.Offset)], [.d (.bool e3434.Skip), .d (.list (List.map encApiWord e3434.Words)), .d (.str e3434.Comment)], [.d (.int .i64 y3572.1.Motion), .d (.int .i64 y3572.1.Distance), .d (.int .i64 y3572.1.Work), .d (.int .i64 y3572.1.Length), .d (.int .i64 y3572.1.Return), .d (.int .i64 y3572.1.Feed), .d (.int .i64 y3572.1.Tool), .d (.int .i64 y3572.1.Offset)], [.d (.bool e3434.Skip), .d (.list (List.map encApiWord e3434.Words)), .d (.str e3434.Comment)], [.rowc 77 0 (List.map encApiWord v3897.2.2)]], [(31, v3433.1.length)]⟩) (fun _ => rfl) (by simp only [seval, SF, ENMB, rmap_set, spD]) (by simp only [seval, SF, ENMB, rmap_set, spD]) fun v3897 => .seqK (.seqK (.regionW fun e h => regW.alt 2 rfl ?_)))
  simp only [seval, SE, w_none, w_eq, ENMB, rmap_set, spD]
  refine alt_lenR rfl rfl und_29 (regW.of ?_)
  simp only [seval, SE, w_none, w_eq, und_29, ENMB, rmap_set, spD]
  refine mU e ?_ h
  refine .cond rfl (fun hb4903 => ?_) (fun hb4903 => ?_)
  refine .skip (Mir.toK (.seqK (Mir.joinO (fun v3902 : Int × (List ApiWord) => (.gr 4 0 :: .fn 82 [.ptr 0 0] :: U :: U :: U :: .d (.int .i64 v3902.1) :: .d (.int .i64 v3897.2.1) :: us 35)) (fun v3902 => ⟨[[.d (.int .i64 v3433.2.Motion), .d (.int .i64 v3433.2.Distance), .d (.int .i64 v3433.2.Work), .d (.int .i64 v3433.2.Length), .d (.int .i64 v3433.2.Return), .d (.int .i64 v3433.2.Feed), .d (.int .i64 v3433.2.Tool), .d (.int .i64 v3433.2.Offset)], [.d (.bool e3434.Skip), .d (.list (List.map encApiWord e3434.Words)), .d (.str e3434.Comment)], [.d (.int .i64 y3572.1.Motion), .d (.int .i64 y3572.1.Distance), .d (.int .i64 y3572.1.Work), .d (.int .i64 y3572.1.Length), .d (.int .i64 y3572.1.Return), .d (.int .i64 y3572.1.Feed), .d (.int .i64 y3572.1.Tool), .d (.int .i64 y3572.1.Offset)], [.d (.bool e3434.Skip), .d (.list (List.map encApiWord e3434.Words)), .d (.str e3434.Comment)], [.rowc 77 0 (List.map encApiWord v3902.2)]], [(31, v3433.1.length)]⟩) (fun _ => rfl) ?_ ?_)))
  refine .block (.seqK (.bind fun e3903 q4909 => ?_))
  replace q4909 := gt_ok q4909
  refine .regionW fun e h => regW.alt 2 rfl ?_
  simp only [seval, SE, w_none, w_eq, ENMB, rmap_set, spD]
  refine alt_indexR rfl rfl rfl und_29 sz_77 (row_lo q4909.1) (row_hi q4909.2 q4909.1) (regW.alt 0 rfl ?_)
  simp only [seval, SE, w_none, w_eq, und_29, sz_77, ENMB, rmap_set, spD]
  refine alt_loadR rfl rfl (row_at q4909.2) (by simp only [↓reduceIte, nA, nL, pt_eq, ag_77, sz_77, dc_cons, dc_nil, SV, encApiWord] <;> rfl) (regW.of ?_)
  simp only [seval, SE, w_none, w_eq, ag_77, sz_77, zero_77, ENMB, rmap_set, spD]
  refine mU e ?_ h
  refine .seqK (.bind fun v3905 hv4911 => .region fun e h => ?_)
  simp only [seval, SE, ag_77, sz_77, ENMB, rmap_set, spD]
  refine SpecS.inl Tryz.func82 rfl (by kernel_rfl) (by kernel_rfl) (fun v3905 : Bool => .d (.bool v3905)) (fun v3905 => ⟨[[.d (.int .i64 v3433.2.Motion), .d (.int .i64 v3433.2.Distance), .d (.int .i64 v3433.2.Work), .d (.int .i64 v3433.2.Length), .d (.int .i64 v3433.2.Return), .d (.int .i64 v3433.2.Feed), .d (.int .i64 v3433.2.Tool), .d (.int .i64 v3433.2.Offset)], [.d (.bool e3434.Skip), .d (.list (List.map encApiWord e3434.Words)), .d (.str e3434.Comment)], [.d (.int .i64 y3572.1.Motion), .d (.int .i64 y3572.1.Distance), .d (.int .i64 y3572.1.Work), .d (.int .i64 y3572.1.Length), .d (.int .i64 y3572.1.Return), .d (.int .i64 y3572.1.Feed), .d (.int .i64 y3572.1.Tool), .d (.int .i64 y3572.1.Offset)], [.d (.bool e3434.Skip), .d (.list (List.map encApiWord e3434.Words)), .d (.str e3434.Comment)], [.rowc 77 0 (List.map encApiWord v3897.2.2)], [.d (.int .u8 e3903.Letter), .d (.int .i64 e3903.Value)]], [(31, v3433.1.length)]⟩) hv4911 rfl ?_ ?_
  simp only [List.replicate, List.length, nS, nA, Tryz.ntmps82, SV]
  refine .seqK (.region fun e h => ?_)
  simp only [seval, SE, ENMB, rmap_set, spD]
  refine mU e ?_ h
  refine .seqK (.bind fun y3906 hy4912 => .region fun e h => ?_)
  simp only [seval, SE, ag_57, sz_57, ag_77, sz_77, ENMB, rmap_set, spD]
  refine SpecS.by (md_idle_spec hy4912) (by simp only [seval, SF, ENMB, rmap_set, spD]) ?_
  simp only [seval, SE, ENMB, rmap_set, spD]
  refine mU e ?_ h
  refine .ret fun e h => ?_
  cases h
  simp only [seval, SF, ENMB, rmap_set, spD, Tryz.results82]
  simp only [seval, SE, ENMB, rmap_set, spD]
  refine mU e ?_ h
  refine .cond rfl (fun hb4913 => ?_) (fun hb4913 => ?_)
  refine .seqK (.bind fun e3907 q4914 => ?_)
  replace q4914 := gt_ok q4914
  refine .regionW fun e h => regW.alt 3 rfl ?_
  simp only [seval, SE, w_none, w_eq, ag_77, sz_77, ENMB, rmap_set, spD]
  refine alt_indexR rfl rfl rfl und_29 sz_77 (row_lo q4914.1) (row_hi q4914.2 q4914.1) (regW.alt 0 rfl ?_)
  simp only [seval, SE, w_none, w_eq, und_29, sz_77, ENMB, rmap_set, spD]
  refine alt_storeR rfl rfl (row_at q4914.2) rfl rfl sz_77 rfl (Nat.le_of_ble_eq_true rfl) (regW.of ?_)
  simp only [seval, SE, w_none, w_eq, sz_77, ENMB, rmap_set, spD]
  refine mU e ?_ h
  refine .region fun e h => ?_
  simp only [seval, SE, ENMB, rmap_set, spD]
  cases h
  simp only [seval, SF, ENMB, rmap_set, spD, Tryz.results81]
  refine .skip fun e h => ?_
  cases h
  simp only [seval, SF, ENMB, rmap_set, spD, Tryz.results81]
  intro v3902
  refine Mir.toK (.region fun e h => ?_)
  simp only [seval, SE, ENMB, rmap_set, spD]
  cases h
  simp only [seval, SF, ENMB, rmap_set, spD, Tryz.results81]
  refine .exit fun e h => ?_
  cases h
  simp only [seval, SF, ENMB, rmap_set, spD, Tryz.results81]
  intro v3873
  refine Mir.toK (.seqK (.guard fun q4915 => ?_))
  replace q4915 := gsl_of q4915
  refine .regionW fun e h => regW.alt 2 rfl ?_
  simp only [seval, SE, w_none, w_eq, ENMB, rmap_set, spD]
  refine alt_sliceR (l := Int.toNat v3873.1) (h := v3873.2.length) rfl rfl und_29 sz_77 (by simp only [seval, SE, bd_some, bd_none, Option.map_some, Option.map_none, lm, q4915.1, q4915.2.1]) (by simp only [seval, SE, bd_some, bd_none, Option.map_some, Option.map_none, lm, q4915.1, q4915.2.1]) (by have := q4915.2.2.1; simpa only [Int.toNat_natCast] using this) (by rw [lm]; exact Nat.le_refl _) (regW.alt 0 rfl ?_)
  simp only [seval, SE, w_none, w_eq, und_29, ENMB, rmap_set, spD]
  refine alt_clearM encApiWord v3873.2 (ApiWord.mk 0 0) rfl rfl app_29 zero_77 rfl rfl rfl (by have h1 := ((by have := q4915.2.2.1; simpa only [Int.toNat_natCast] using this) : Int.toNat v3873.1 ≤ v3873.2.length); have h2 := (Nat.le_refl v3873.2.length); omega) (regW.of ?_)
  simp only [seval, SE, w_none, w_eq, ENMB, rmap_set, spD]
  refine mU e ?_ h
  refine .seqK (.guard fun q4916 => ?_)
  replace q4916 := gsl_of q4916
  refine .regionW fun e h => regW.alt 2 rfl ?_
  simp only [seval, SE, w_none, w_eq, ENMB, rmap_set, spD]
  refine alt_sliceR (l := 0) (h := Int.toNat v3873.1) rfl rfl und_29 sz_77 (by simp only [seval, SE, bd_some, bd_none, Option.map_some, Option.map_none, lm, q4916.1, q4916.2.1]) (by simp only [seval, SE, bd_some, bd_none, Option.map_some, Option.map_none, lm, q4916.1, q4916.2.1]) (Nat.zero_le _) (by rw [lm]; exact q4916.2.2.2) (regW.of ?_)
  simp only [seval, SE, w_none, w_eq, und_29, ENMB, rmap_set, spD]
  refine mU e ?_ h
  refine .frz 4 rfl ?_
  simp only [↓reduceIte, reduceCtorEq, nA, nE, and_self, and_true, true_and, and_false, false_and, SZ, tk_map, dr_map]
  repeat first | rw [if_pos (show _ ≤ (_ : Nat) by simp only [lm, List.length_append, List.length_take, List.length_drop, List.length_replicate]; have h1 := ((by have := q4915.2.2.1; simpa only [Int.toNat_natCast] using this) : Int.toNat v3873.1 ≤ v3873.2.length); have h2 := (Nat.le_refl v3873.2.length); simp only [List.length_append, List.length_take, List.length_drop, List.length_replicate] at h1 h2; omega)] | rw [if_pos (show _ ≤ (_ : Nat) by simp only [lm, List.length_append, List.length_take, List.length_drop, List.length_replicate]; have h1 := ((by have := q4915.2.2.1; simpa only [Int.toNat_natCast] using this) : Int.toNat v3873.1 ≤ v3873.2.length); have h2 := (Nat.le_refl v3873.2.length); omega)] | rw [if_pos (show _ ≤ (_ : Nat) by simp only [lm, List.length_append, List.length_take, List.length_drop, List.length_replicate]; have h1 := ((Nat.zero_le _) : 0 ≤ Int.toNat v3873.1); have h2 := q4916.2.2.2; simp only [List.length_append, List.length_take, List.length_drop, List.length_replicate] at h1 h2; omega)] | rw [if_pos (show _ ≤ (_ : Nat) by simp only [lm, List.length_append, List.length_take, List.length_drop, List.length_replicate]; have h1 := ((Nat.zero_le _) : 0 ≤ Int.toNat v3873.1); have h2 := q4916.2.2.2; omega)] | rw [if_pos (show _ ≤ (_ : Nat) by simp only [lm, List.length_append, List.length_take, List.length_drop, List.length_replicate]; have h1 := ((Nat.zero_le _) : 0 ≤ Int.toNat v3873.1); have h2 := q4916.2.2.2; simp only [List.length_append, List.length_take, List.length_drop, List.length_replicate] at h1 h2; omega)] | rw [if_pos (show _ ≤ (_ : Nat) by simp only [lm, List.length_append, List.length_take, List.length_drop, List.length_replicate]; have h1 := ((Nat.zero_le _) : 0 ≤ Int.toNat v3873.1); have h2 := q4916.2.2.2; omega)]
  refine .ret fun e h => ?_
  cases h
  simp only [seval, SF, ENMB, rmap_set, spD, Tryz.results81]
  simp only [seval, SE, fld_31_1, sz_29, ENMB, rmap_set, spD]
  refine mU e ?_ h
  refine .seqK (.seqK (.joinV (U :: U :: .ptr 0 0 :: U :: U :: U :: .own 0 (List.map encApiBlock v3433.1) :: U :: U :: .ptr 2 0 :: U :: .ptr 3 0 :: .d (.list (List.map encApiBlock a1)) :: .d (.int .i64 (a1.length : Int)) :: .d (.int .i64 (i3432 : Int)) :: U :: U :: U :: U :: U :: U :: U :: U :: U :: U :: U :: U :: U :: U :: U :: U :: U :: U :: U :: U :: U :: U :: U :: U :: U :: U :: U :: U :: U :: U :: U :: .d (.bool ((decide ((v3707.length : Int) > 0)) || (!(e3434.Comment == []) || e3434.Skip))) :: us 7) ⟨[[.d (.int .i64 v3433.2.Motion), .d (.int .i64 v3433.2.Distance), .d (.int .i64 v3433.2.Work), .d (.int .i64 v3433.2.Length), .d (.int .i64 v3433.2.Return), .d (.int .i64 v3433.2.Feed), .d (.int .i64 v3433.2.Tool), .d (.int .i64 v3433.2.Offset)], [.d (.bool e3434.Skip), .d (.list (List.map encApiWord e3434.Words)), .d (.str e3434.Comment)], [.d (.int .i64 y3572.1.Motion), .d (.int .i64 y3572.1.Distance), .d (.int .i64 y3572.1.Work), .d (.int .i64 y3572.1.Length), .d (.int .i64 y3572.1.Return), .d (.int .i64 y3572.1.Feed), .d (.int .i64 y3572.1.Tool), .d (.int .i64 y3572.1.Offset)], [.d (.bool e3434.Skip), .d (.list (List.map encApiWord v3707)), .d (.str e3434.Comment)], [.rowc 77 1 (List.map encApiWord [])]], [(31, v3433.1.length)]⟩ rfl ?_ ?_))
  refine SWs.region ?_
  rcases Bool.eq_false_or_eq_true (decide ((v3707.length : Int) > 0)) with hb4917 | hb4917
  simp only [seval, SE, SL, PB, fld_31_1, sz_29, ag_29, und_29, hb4917, ENMB, rmap_set, spD]
  rcases Bool.eq_false_or_eq_true (e3434.Comment == []) with hb4918 | hb4918
  simp only [seval, SE, SL, PB, fld_31_1, sz_29, ag_29, und_29, fld_31_2, sz_9, ag_9, fld_31_0, sz_4, ag_4, hb4917, hb4918, ENMB, rmap_set, spD]
  simp only [seval, SE, SL, PB, fld_31_1, sz_29, ag_29, und_29, fld_31_2, sz_9, ag_9, hb4917, hb4918, ENMB, rmap_set, spD]
  refine Mir.toK (Mir.joinO (fun v3908 : (List ApiBlock) => (U :: U :: .ptr 0 0 :: U :: U :: U :: .own 0 (List.map encApiBlock v3908) :: U :: U :: .ptr 2 0 :: U :: U :: .d (.list (List.map encApiBlock a1)) :: .d (.int .i64 (a1.length : Int)) :: .d (.int .i64 (i3432 : Int)) :: us 39)) (fun v3908 => ⟨[[.d (.int .i64 v3433.2.Motion), .d (.int .i64 v3433.2.Distance), .d (.int .i64 v3433.2.Work), .d (.int .i64 v3433.2.Length), .d (.int .i64 v3433.2.Return), .d (.int .i64 v3433.2.Feed), .d (.int .i64 v3433.2.Tool), .d (.int .i64 v3433.2.Offset)], [.d (.bool e3434.Skip), .d (.list (List.map encApiWord e3434.Words)), .d (.str e3434.Comment)], [.d (.int .i64 y3572.1.Motion), .d (.int .i64 y3572.1.Distance), .d (.int .i64 y3572.1.Work), .d (.int .i64 y3572.1.Length), .d (.int .i64 y3572.1.Return), .d (.int .i64 y3572.1.Feed), .d (.int .i64 y3572.1.Tool), .d (.int .i64 y3572.1.Offset)], [.d (.bool e3434.Skip), .d (.list (List.map encApiWord v3707)), .d (.str e3434.Comment)], [.rowc 77 1 (List.map encApiWord [])]], [(31, v3908.length)]⟩) (fun _ => rfl) ?_ ?_)
  refine .cond rfl (fun hb4921 => ?_) (fun hb4921 => ?_)
  refine .guard fun q4922 => .region fun e h => ?_
  simp only [seval, SE, ag_31, sz_31, und_39, zero_31, (nr rfl : okLen 3 = true), app_39, al_ApiBlock, q4922, ENMB, rmap_set, spD]
  cases h
  simp only [seval, SF, ENMB, rmap_set, spD, Tryz.results41]
  refine .skip fun e h => ?_
  cases h
  simp only [seval, SF, ENMB, rmap_set, spD, Tryz.results41]
  intro v3908
  refine Mir.toK (.region fun e h => ?_)
  simp only [seval, SE, ag_57, sz_57, ENMB, rmap_set, spD]
  refine mU e ?_ h
  refine .region fun e h => ?_
  simp only [seval, SE, ENMB, rmap_set, spD]
  cases h
  simp only [seval, SF, ENMB, rmap_set, spD, Tryz.results41, qr4305]
  intro v3433 qd4306
  refine .seqK (.region fun e h => ?_)
  simp only [seval, SE, qd4306, ENMB, rmap_set, spD]
  refine mU e ?_ h
  refine .seqK (.condF rfl (.exit fun e h => ?_))
  cases h
  simp only [seval, SF, ENMB, rmap_set, spD, Tryz.results41]
  intro v2598
  refine Mir.toK (.seqK (.region fun e h => ?_))
  simp only [seval, SE, ENMB, rmap_set, spD]
  refine mU e ?_ h
  refine .ret fun e h => ?_
  cases h
  simp only [seval, SF, ENMB, rmap_set, spD, Tryz.results41]

def bk_Codes (a0 : ApiBlock) (a1 : Int) : Option (List Int) :=
  bindO (guardO (okIdx a0.Words) (
      rangeX (fun (i157 : Nat) (e159 : ApiWord) (v158 : (List Int)) =>
        bindO (if (e159.Letter == a1) = true then
              guardO (okLen (v158.length + 1)) (
              some (v158 ++ [e159.Value]))
            else
              some v158) fun (v160 : (List Int)) =>
        some (.go v160)) (fun (v158 : (List Int)) => some v158) a0.Words 0 [])) fun (v142 : (List Int)) =>
  some v142
theorem bk_Codes_spec {a0 : ApiBlock} {a1 : Int} {y : (List Int)} (h : bk_Codes a0 a1 = some y) : Spec gP 98 [.agg [.d (.bool a0.Skip), .d (.list (List.map encApiWord a0.Words)), .d (.str a0.Comment)], .d (.int .u8 a1)] (.d (.list (List.map (eInt .i64) y))) := by
  refine spec_mir Tryz.func98 rfl (by kernel_rfl) (by kernel_rfl) (fun y : (List Int) => .d (.list (List.map (eInt .i64) y))) ?_ h
  unfold bk_Codes
  simp only [List.replicate, List.length, nS, nA, Tryz.ntmps98, SV]
  refine .seqK (.region fun e h => ?_)
  simp only [seval, SE, ENMB, eInt]
  refine mU e ?_ h
  refine .seqK (.region fun e h => ?_)
  simp only [seval, SE, ENMB, eInt]
  refine mU e ?_ h
  refine .seqK (.seqK (.region fun e h => ?_))
  simp only [seval, SE, fld_31_1, sz_29, ag_29, und_29, ENMB, eInt]
  refine mU e ?_ h
  refine .gh [.slot 5 2] rfl (Mir.joinO (fun v142 : (List Int) => (U :: U :: U :: U :: U :: .own 0 (List.map (eInt .i64) v142) :: us 20)) (fun v142 => ⟨[[.d (.bool a0.Skip), .d (.list (List.map encApiWord a0.Words)), .d (.str a0.Comment)]], [(2, v142.length)]⟩) (fun _ => rfl) ?_ ?_)
  refine .block (.guard fun qg91 => Mir.range (fun (i157 : Nat) (v158 : (List Int)) => (U :: .d (.int .u8 a1) :: U :: U :: U :: .own 0 (List.map (eInt .i64) v158) :: U :: U :: U :: .d (.list (List.map encApiWord a0.Words)) :: .d (.int .i64 (a0.Words.length : Int)) :: .d (.int .i64 (i157 : Int)) :: us 14)) (fun i157 v158 => ⟨[[.d (.bool a0.Skip), .d (.list (List.map encApiWord a0.Words)), .d (.str a0.Comment)]], [(2, v158.length)]⟩) qg91 (fun _ _ => rfl) (by simp only [seval, SF, ENMB, eInt, (nr rfl : ((0 : Nat) : Int) = 0)]) (by simp only [seval, SF, ENMB, eInt, (nr rfl : ((0 : Nat) : Int) = 0)]) ?_ ?_)
  intro i157 e159 v158 qr89
  refine .seqK (.region fun e h => ?_)
  simp only [seval, SE, qr89, ENMB, eInt]
  refine mU e ?_ h
  refine .seqK (.condT rfl (.skip (Mir.toK (.seqK (Mir.joinO (fun v160 : (List Int) => (U :: .d (.int .u8 a1) :: U :: U :: U :: .own 0 (List.map (eInt .i64) v160) :: U :: U :: U :: .d (.list (List.map encApiWord a0.Words)) :: .d (.int .i64 (a0.Words.length : Int)) :: .d (.int .i64 (i157 : Int)) :: us 14)) (fun v160 => ⟨[[.d (.bool a0.Skip), .d (.list (List.map encApiWord a0.Words)), .d (.str a0.Comment)]], [(2, v160.length)]⟩) (fun _ => rfl) ?_ ?_)))))
  refine .block (.seqK (.region fun e h => ?_))
  simp only [seval, SE, und_29, sz_77, qr89, Int.toNat_natCast, ag_77, zero_77, ENMB, eInt]
  refine mU e ?_ h
  refine .seqK (.region fun e h => ?_)
  simp only [seval, SE, fld_77_0, sz_5, ag_5, ENMB, eInt]
  refine mU e ?_ h
  refine .cond rfl (fun hb94 => ?_) (fun hb94 => ?_)
  refine .guard fun q95 => .region fun e h => ?_
  simp only [seval, SE, fld_77_1, sz_2, ag_2, und_121, zero_2, (nr rfl : okLen 1 = true), app_121, al_eInt, q95, ENMB, eInt]
  cases h
  simp only [seval, SF, ENMB, eInt, Tryz.results98]
  refine .skip fun e h => ?_
  cases h
  simp only [seval, SF, ENMB, eInt, Tryz.results98]
  intro v160
  refine Mir.toK (.region fun e h => ?_)
  simp only [seval, SE, ENMB, eInt]
  cases h
  simp only [seval, SF, ENMB, eInt, Tryz.results98, qr89]
  intro v158 qd90
  refine .seqK (.region fun e h => ?_)
  simp only [seval, SE, qd90, ENMB, eInt]
  refine mU e ?_ h
  refine .seqK (.condF rfl (.exit fun e h => ?_))
  cases h
  simp only [seval, SF, ENMB, eInt, Tryz.results98]
  intro v142
  refine Mir.toK (.seqK (.region fun e h => ?_))
  simp only [seval, SE, ENMB, eInt]
  refine mU e ?_ h
  refine .ret fun e h => ?_
  cases h
  simp only [seval, SF, ENMB, eInt, Tryz.results98]

def slices_Index_int64_int64 (a0 : (List Int)) (a1 : Int) : Option Int :=
  bindX (guardO (okIdx a0) (
      rangeX (fun (i127 : Nat) (e129 : Int) (v128 : Unit) =>
        if (a1 == e129) = true then
          some (.ret (.ret (i127 : Int)))
        else
          some (.go ())) (fun (v128 : Unit) => some (.go ())) a0 0 ())) fun (v115 : Unit) =>
  some (-1)
theorem slices_Index_int64_int64_spec {a0 : (List Int)} {a1 : Int} {y : Int} (h : slices_Index_int64_int64 a0 a1 = some y) : Spec gP 129 [.d (.list (List.map (eInt .i64) a0)), .d (.int .i64 a1)] (.d (.int .i64 y)) := by
  refine spec_mir Tryz.func129 rfl (by kernel_rfl) (by kernel_rfl) (fun y : Int => .d (.int .i64 y)) ?_ h
  unfold slices_Index_int64_int64
  simp only [List.replicate, List.length, nS, nA, Tryz.ntmps129, SV]
  refine .seqK (.region fun e h => ?_)
  simp only [seval, SE, eInt]
  refine mU e ?_ h
  refine .seqK (.seqK (.region fun e h => ?_))
  simp only [seval, SE, und_121, eInt]
  refine mU e ?_ h
  refine Mir.join (fun v115 : Unit => (us 19)) (fun v115 => ⟨[], []⟩) (fun _ => rfl) ?_ ?_
  refine .block (.guard fun qg51 => Mir.range (fun (i127 : Nat) (v128 : Unit) => (.d (.list (List.map (eInt .i64) a0)) :: .d (.int .i64 a1) :: U :: U :: U :: U :: U :: .d (.int .i64 (a0.length : Int)) :: .d (.int .i64 (i127 : Int)) :: us 10)) (fun i127 v128 => ⟨[], []⟩) qg51 (fun _ _ => rfl) (by simp only [seval, SF, eInt, (nr rfl : ((0 : Nat) : Int) = 0)]) (by simp only [seval, SF, eInt, (nr rfl : ((0 : Nat) : Int) = 0)]) ?_ ?_)
  intro i127 e129 v128 qr49
  refine .seqK (.region fun e h => ?_)
  simp only [seval, SE, qr49, eInt]
  refine mU e ?_ h
  refine .seqK (.condT rfl (.skip (Mir.toK (.seqK (.block (.seqK (.region fun e h => ?_)))))))
  simp only [seval, SE, eInt]
  refine mU e ?_ h
  refine .seqK (.region fun e h => ?_)
  simp only [seval, SE, und_121, sz_2, qr49, Int.toNat_natCast, ag_2, eInt]
  refine mU e ?_ h
  refine .cond rfl (fun hb54 => ?_) (fun hb54 => ?_)
  refine .seqK (.region fun e h => ?_)
  simp only [seval, SE, eInt]
  refine mU e ?_ h
  refine .ret fun e h => ?_
  cases h
  simp only [seval, SF, eInt, Tryz.results129]
  refine .skip (Mir.toB (Mir.toK (.region fun e h => ?_)))
  simp only [seval, SE, eInt]
  cases h
  simp only [seval, SF, eInt, Tryz.results129, qr49]
  intro v128 qd50
  refine .seqK (.region fun e h => ?_)
  simp only [seval, SE, qd50, eInt]
  refine mU e ?_ h
  refine .seqK (.condF rfl (.exit fun e h => ?_))
  cases h
  simp only [seval, SF, eInt, Tryz.results129]
  intro v115
  refine Mir.toK (.seqK (.region fun e h => ?_))
  simp only [seval, SE, eInt]
  refine mU e ?_ h
  refine .ret fun e h => ?_
  cases h
  simp only [seval, SF, eInt, Tryz.results129]

def slices_Contains_int64_int64 (a0 : (List Int)) (a1 : Int) : Option Bool :=
  bindO (slices_Index_int64_int64 a0 a1) fun (y101 : Int) =>
  some (decide (y101 ≥ 0))
theorem slices_Contains_int64_int64_spec {a0 : (List Int)} {a1 : Int} {y : Bool} (h : slices_Contains_int64_int64 a0 a1 = some y) : Spec gP 97 [.d (.list (List.map (eInt .i64) a0)), .d (.int .i64 a1)] (.d (.bool y)) := by
  refine spec_mir Tryz.func97 rfl (by kernel_rfl) (by kernel_rfl) (fun y : Bool => .d (.bool y)) ?_ h
  unfold slices_Contains_int64_int64
  simp only [List.replicate, List.length, nS, nA, Tryz.ntmps97, SV]
  refine .seqK (.region fun e h => ?_)
  simp only [seval, SE, eInt]
  refine mU e ?_ h
  refine .seqK (.bind fun y101 hy1 => .region fun e h => ?_)
  simp only [seval, SE, eInt]
  refine SpecS.by (slices_Index_int64_int64_spec hy1) (by simp only [seval, SF, eInt]) ?_
  simp only [seval, SE, eInt]
  refine mU e ?_ h
  refine .ret fun e h => ?_
  cases h
  simp only [seval, SF, eInt, Tryz.results97]

def sp_has (a0 : ApiBlock) (a1 : Int) (a2 : Int) : Option Bool :=
  bindO (bk_Codes a0 a1) fun (y101 : (List Int)) =>
  bindO (slices_Contains_int64_int64 y101 a2) fun (y102 : Bool) =>
  some y102
theorem sp_has_spec {a0 : ApiBlock} {a1 : Int} {a2 : Int} {y : Bool} (h : sp_has a0 a1 a2 = some y) : Spec gP 54 [.agg [.d (.bool a0.Skip), .d (.list (List.map encApiWord a0.Words)), .d (.str a0.Comment)], .d (.int .u8 a1), .d (.int .i64 a2)] (.d (.bool y)) := by
  refine spec_mir Tryz.func54 rfl (by kernel_rfl) (by kernel_rfl) (fun y : Bool => .d (.bool y)) ?_ h
  unfold sp_has
  simp only [List.replicate, List.length, nS, nA, Tryz.ntmps54, SV]
  refine .seqK (.region fun e h => ?_)
  simp only [seval, SE, ENMB]
  refine mU e ?_ h
  refine .seqK (.bind fun y101 hy1 => .bind fun y102 hy2 => .region fun e h => ?_)
  simp only [seval, SE, ag_31, sz_31, ENMB]
  refine SpecS.by (bk_Codes_spec hy1) (by simp only [seval, SF, ENMB]) ?_
  simp only [seval, SE, ENMB]
  refine SpecS.by (slices_Contains_int64_int64_spec hy2) (by simp only [seval, SF, ENMB]) ?_
  simp only [seval, SE, ENMB]
  refine mU e ?_ h
  refine .ret fun e h => ?_
  cases h
  simp only [seval, SF, ENMB, Tryz.results54]

def sp_marked (a0 : ApiBlock) : Option Bool :=
  bindO (bindO (bk_Codes a0 79) fun (y101 : (List Int)) =>
      if (decide ((y101.length : Int) > 0)) = true then
        some true
      else
        bindO (sp_has a0 77 30000) fun (y102 : Bool) =>
        if y102 = true then
          some true
        else
          bindO (sp_has a0 77 99000) fun (y103 : Bool) =>
          some y103) fun (v104 : Bool) =>
  some v104
theorem sp_marked_spec {a0 : ApiBlock} {y : Bool} (h : sp_marked a0 = some y) : Spec gP 101 [.agg [.d (.bool a0.Skip), .d (.list (List.map encApiWord a0.Words)), .d (.str a0.Comment)]] (.d (.bool y)) := by
  refine spec_mir Tryz.func101 rfl (by kernel_rfl) (by kernel_rfl) (fun y : Bool => .d (.bool y)) ?_ h
  unfold sp_marked
  simp only [List.replicate, List.length, nS, nA, Tryz.ntmps101, SV]
  refine .seqK (.region fun e h => ?_)
  simp only [seval, SE, ENMB]
  refine mU e ?_ h
  refine .seqK (Mir.joinO (fun v104 : Bool => (U :: U :: .d (.bool v104) :: us 12)) (fun v104 => ⟨[[.d (.bool a0.Skip), .d (.list (List.map encApiWord a0.Words)), .d (.str a0.Comment)]], []⟩) (fun _ => rfl) ?_ ?_)
  refine .bind fun y101 hy1 => .ite (fun hb2 => ?_) (fun hb2 => ?_)
  refine .region fun e h => ?_
  simp only [seval, SE, ag_31, sz_31, ENMB, hb2]
  refine SpecS.by (bk_Codes_spec hy1) (by simp only [seval, SF, ENMB, hb2]) ?_
  simp only [seval, SE, und_121, ENMB, hb2]
  cases h
  simp only [seval, SF, ENMB, hb2]
  refine .bind fun y102 hy3 => .ite (fun hb4 => ?_) (fun hb4 => ?_)
  refine .region fun e h => ?_
  simp only [seval, SE, ag_31, sz_31, ENMB, hb2, hb4]
  refine SpecS.by (bk_Codes_spec hy1) (by simp only [seval, SF, ENMB, hb2, hb4]) ?_
  simp only [seval, SE, und_121, ag_31, sz_31, ENMB, hb2, hb4]
  refine SpecS.by (sp_has_spec hy3) (by simp only [seval, SF, ENMB, hb2, hb4]) ?_
  simp only [seval, SE, ENMB, hb2, hb4]
  cases h
  simp only [seval, SF, ENMB, hb2, hb4]
  refine .bind fun y103 hy5 => .region fun e h => ?_
  simp only [seval, SE, ag_31, sz_31, ENMB, hb2, hb4]
  refine SpecS.by (bk_Codes_spec hy1) (by simp only [seval, SF, ENMB, hb2, hb4]) ?_
  simp only [seval, SE, und_121, ag_31, sz_31, ENMB, hb2, hb4]
  refine SpecS.by (sp_has_spec hy3) (by simp only [seval, SF, ENMB, hb2, hb4]) ?_
  simp only [seval, SE, ag_31, sz_31, ENMB, hb2, hb4]
  refine SpecS.by (sp_has_spec hy5) (by simp only [seval, SF, ENMB, hb2, hb4]) ?_
  simp only [seval, SE, ENMB, hb2, hb4]
  cases h
  simp only [seval, SF, ENMB, hb2, hb4]
  intro v104
  refine Mir.toK (.ret fun e h => ?_)
  cases h
  simp only [seval, SF, ENMB, Tryz.results101]

def sp_foldable (a0 : ApiBlock) : Option Bool :=
  bindO (bindO (sp_marked a0) fun (y101 : Bool) =>
      if y101 = true then
        some false
      else
        bindO (bk_Codes a0 78) fun (y102 : (List Int)) =>
        if ((y102.length : Int) == 0) = true then
          bindO (sp_has a0 77 98000) fun (y103 : Bool) =>
          some (!y103)
        else
          some false) fun (v104 : Bool) =>
  some v104
theorem sp_foldable_spec {a0 : ApiBlock} {y : Bool} (h : sp_foldable a0 = some y) : Spec gP 123 [.agg [.d (.bool a0.Skip), .d (.list (List.map encApiWord a0.Words)), .d (.str a0.Comment)]] (.d (.bool y)) := by
  refine spec_mir Tryz.func123 rfl (by kernel_rfl) (by kernel_rfl) (fun y : Bool => .d (.bool y)) ?_ h
  unfold sp_foldable
  simp only [List.replicate, List.length, nS, nA, Tryz.ntmps123, SV]
  refine .seqK (.region fun e h => ?_)
  simp only [seval, SE, ENMB]
  refine mU e ?_ h
  refine .seqK (Mir.joinO (fun v104 : Bool => (U :: U :: .d (.bool v104) :: us 14)) (fun v104 => ⟨[[.d (.bool a0.Skip), .d (.list (List.map encApiWord a0.Words)), .d (.str a0.Comment)]], []⟩) (fun _ => rfl) ?_ ?_)
  refine .bind fun y101 hy1 => .ite (fun hb2 => ?_) (fun hb2 => ?_)
  refine .region fun e h => ?_
  simp only [seval, SE, ag_31, sz_31, ENMB, hb2]
  refine SpecS.by (sp_marked_spec hy1) (by simp only [seval, SF, ENMB, hb2]) ?_
  simp only [seval, SE, ENMB, hb2]
  cases h
  simp only [seval, SF, ENMB, hb2]
  refine .bind fun y102 hy3 => .ite (fun hb4 => ?_) (fun hb4 => ?_)
  refine .bind fun y103 hy5 => .region fun e h => ?_
  simp only [seval, SE, ag_31, sz_31, ENMB, hb2, hb4]
  refine SpecS.by (sp_marked_spec hy1) (by simp only [seval, SF, ENMB, hb2, hb4]) ?_
  simp only [seval, SE, ag_31, sz_31, ENMB, hb2, hb4]
  refine SpecS.by (bk_Codes_spec hy3) (by simp only [seval, SF, ENMB, hb2, hb4]) ?_
  simp only [seval, SE, und_121, ag_31, sz_31, ENMB, hb2, hb4]
  refine SpecS.by (sp_has_spec hy5) (by simp only [seval, SF, ENMB, hb2, hb4]) ?_
  simp only [seval, SE, ENMB, hb2, hb4]
  cases h
  simp only [seval, SF, ENMB, hb2, hb4]
  refine .region fun e h => ?_
  simp only [seval, SE, ag_31, sz_31, ENMB, hb2, hb4]
  refine SpecS.by (sp_marked_spec hy1) (by simp only [seval, SF, ENMB, hb2, hb4]) ?_
  simp only [seval, SE, ag_31, sz_31, ENMB, hb2, hb4]
  refine SpecS.by (bk_Codes_spec hy3) (by simp only [seval, SF, ENMB, hb2, hb4]) ?_
  simp only [seval, SE, und_121, ENMB, hb2, hb4]
  cases h
  simp only [seval, SF, ENMB, hb2, hb4]
  intro v104
  refine Mir.toK (.ret fun e h => ?_)
  cases h
  simp only [seval, SF, ENMB, Tryz.results123]

def slices_Equal_api_Word_api_Word (a0 : (List ApiWord)) (a1 : (List ApiWord)) : Option Bool :=
  if ((a0.length : Int) != (a1.length : Int)) = true then
    some false
  else
    bindX (guardO (okIdx a0) (
        rangeX (fun (i141 : Nat) (e143 : ApiWord) (v142 : Unit) =>
          bindO (gt a1 (i141 : Int)) fun (e145 : ApiWord) =>
          if (!((e143.Letter == e145.Letter) && (e143.Value == e145.Value))) = true then
            some (.ret (.ret false))
          else
            some (.go ())) (fun (v142 : Unit) => some (.go ())) a0 0 ())) fun (v123 : Unit) =>
    some true
theorem slices_Equal_api_Word_api_Word_spec {a0 : (List ApiWord)} {a1 : (List ApiWord)} {y : Bool} (h : slices_Equal_api_Word_api_Word a0 a1 = some y) : Spec gP 146 [.d (.list (List.map encApiWord a0)), .d (.list (List.map encApiWord a1))] (.d (.bool y)) := by
  refine spec_mir Tryz.func146 rfl (by kernel_rfl) (by kernel_rfl) (fun y : Bool => .d (.bool y)) ?_ h
  unfold slices_Equal_api_Word_api_Word
  simp only [List.replicate, List.length, nS, nA, Tryz.ntmps146, SV]
  refine .seqK (.region fun e h => ?_)
  simp only [seval, SE, ENMB]
  refine mU e ?_ h
  refine .seqK (.seqK (.region fun e h => ?_))
  simp only [seval, SE, und_29, ENMB]
  refine mU e ?_ h
  refine .cond rfl (fun hb2 => ?_) (fun hb2 => ?_)
  refine .seqK (.region fun e h => ?_)
  simp only [seval, SE, ENMB]
  refine mU e ?_ h
  refine .ret fun e h => ?_
  cases h
  simp only [seval, SF, ENMB, Tryz.results146]
  refine .skip (Mir.toK (.seqK (.seqK (.region fun e h => ?_))))
  simp only [seval, SE, und_29, ENMB]
  refine mU e ?_ h
  refine Mir.join (fun v123 : Unit => (us 26)) (fun v123 => ⟨[], []⟩) (fun _ => rfl) ?_ ?_
  refine .block (.guard fun qg67 => Mir.range (fun (i141 : Nat) (v142 : Unit) => (.d (.list (List.map encApiWord a0)) :: .d (.list (List.map encApiWord a1)) :: U :: U :: U :: U :: U :: U :: U :: U :: U :: U :: .d (.int .i64 (a0.length : Int)) :: .d (.int .i64 (i141 : Int)) :: us 12)) (fun i141 v142 => ⟨[], []⟩) qg67 (fun _ _ => rfl) (by simp only [seval, SF, ENMB, (nr rfl : ((0 : Nat) : Int) = 0)]) (by simp only [seval, SF, ENMB, (nr rfl : ((0 : Nat) : Int) = 0)]) ?_ ?_)
  intro i141 e143 v142 qr65
  refine .seqK (.region fun e h => ?_)
  simp only [seval, SE, qr65, ENMB]
  refine mU e ?_ h
  refine .seqK (.condT rfl (.skip (Mir.toK (.seqK (.block (.seqK (.region fun e h => ?_)))))))
  simp only [seval, SE, ENMB]
  refine mU e ?_ h
  refine .seqK (.bind fun e145 q70 => ?_)
  replace q70 := gt_ok q70
  simp only [Int.toNat_natCast] at q70
  refine .regionD [] (by kernel_rfl) fun e h => ?_
  simp only [seval, SE, SB, und_29, sz_77, qr65, Int.toNat_natCast, ag_77, q70, gE_77, ENMB]
  refine mU e ?_ h
  refine .cond rfl (fun hb72 => ?_) (fun hb72 => ?_)
  refine .seqK (.region fun e h => ?_)
  simp only [seval, SE, ENMB]
  refine mU e ?_ h
  refine .ret fun e h => ?_
  cases h
  simp only [seval, SF, ENMB, Tryz.results146]
  refine .skip (Mir.toB (Mir.toK (.region fun e h => ?_)))
  simp only [seval, SE, ENMB]
  cases h
  simp only [seval, SF, ENMB, Tryz.results146, qr65]
  intro v142 qd66
  refine .seqK (.region fun e h => ?_)
  simp only [seval, SE, qd66, ENMB]
  refine mU e ?_ h
  refine .seqK (.condF rfl (.exit fun e h => ?_))
  cases h
  simp only [seval, SF, ENMB, Tryz.results146]
  intro v123
  refine Mir.toK (.seqK (.region fun e h => ?_))
  simp only [seval, SE, ENMB]
  refine mU e ?_ h
  refine .ret fun e h => ?_
  cases h
  simp only [seval, SF, ENMB, Tryz.results146]

def bk_Equal (a0 : ApiBlock) (a1 : ApiBlock) : Option Bool :=
  bindO (if (a0.Skip == a1.Skip) = true then
        if (a0.Comment == a1.Comment) = true then
          bindO (slices_Equal_api_Word_api_Word a0.Words a1.Words) fun (y101 : Bool) =>
          some y101
        else
          some false
      else
        some false) fun (v102 : Bool) =>
  some v102
theorem bk_Equal_spec {a0 : ApiBlock} {a1 : ApiBlock} {y : Bool} (h : bk_Equal a0 a1 = some y) : Spec gP 124 [.agg [.d (.bool a0.Skip), .d (.list (List.map encApiWord a0.Words)), .d (.str a0.Comment)], .agg [.d (.bool a1.Skip), .d (.list (List.map encApiWord a1.Words)), .d (.str a1.Comment)]] (.d (.bool y)) := by
  refine spec_mir Tryz.func124 rfl (by kernel_rfl) (by kernel_rfl) (fun y : Bool => .d (.bool y)) ?_ h
  unfold bk_Equal
  simp only [List.replicate, List.length, nS, nA, Tryz.ntmps124, SV]
  refine .seqK (.region fun e h => ?_)
  simp only [seval, SE, ENMB]
  refine mU e ?_ h
  refine .seqK (Mir.joinO (fun v102 : Bool => (U :: U :: U :: U :: .d (.bool v102) :: us 19)) (fun v102 => ⟨[[.d (.bool a0.Skip), .d (.list (List.map encApiWord a0.Words)), .d (.str a0.Comment)], [.d (.bool a1.Skip), .d (.list (List.map encApiWord a1.Words)), .d (.str a1.Comment)]], []⟩) (fun _ => rfl) ?_ ?_)
  refine .ite (fun hb1 => ?_) (fun hb1 => ?_)
  refine .ite (fun hb2 => ?_) (fun hb2 => ?_)
  refine .bind fun y101 hy3 => .region fun e h => ?_
  simp only [seval, SE, fld_31_0, sz_4, ag_4, und_4, fld_31_2, sz_9, ag_9, fld_31_1, sz_29, ag_29, ENMB, hb1, hb2]
  refine SpecS.by (slices_Equal_api_Word_api_Word_spec hy3) (by simp only [seval, SF, ENMB, hb1, hb2]) ?_
  simp only [seval, SE, ENMB, hb1, hb2]
  cases h
  simp only [seval, SF, ENMB, hb1, hb2]
  refine .region fun e h => ?_
  simp only [seval, SE, fld_31_0, sz_4, ag_4, und_4, fld_31_2, sz_9, ag_9, ENMB, hb1, hb2]
  cases h
  simp only [seval, SF, ENMB, hb1, hb2]
  refine .region fun e h => ?_
  simp only [seval, SE, fld_31_0, sz_4, ag_4, und_4, ENMB, hb1]
  cases h
  simp only [seval, SF, ENMB, hb1]
  intro v102
  refine Mir.toK (.ret fun e h => ?_)
  cases h
  simp only [seval, SF, ENMB, Tryz.results124]

def sp_run (a0 : (List ApiBlock)) (a1 : Int) (a2 : Int) (a3 : Int) : Option Bool :=
  bindX (loopX (fun (v163 : Int) =>
        if (decide (v163 < a3)) = true then
          bindO (bindO (gt a0 (IntKind.i64.wrap (a1 + v163))) fun (e169 : ApiBlock) =>
              bindO (sp_foldable e169) fun (y170 : Bool) =>
              if y170 = true then
                bindO (gt a0 (IntKind.i64.wrap (a2 + v163))) fun (e171 : ApiBlock) =>
                bindO (bk_Equal e169 e171) fun (y172 : Bool) =>
                some (!y172)
              else
                some true) fun (v173 : Bool) =>
          if v173 = true then
            some (.ret (.ret false))
          else
            some (.go (IntKind.i64.wrap (v163 + 1)))
        else
          some (.ret (.go ()))) fuel 0) fun (v137 : Unit) =>
  some true
theorem sp_run_spec {a0 : (List ApiBlock)} {a1 : Int} {a2 : Int} {a3 : Int} {y : Bool} (h : sp_run a0 a1 a2 a3 = some y) : Spec gP 85 [.d (.list (List.map encApiBlock a0)), .d (.int .i64 a1), .d (.int .i64 a2), .d (.int .i64 a3)] (.d (.bool y)) := by
  refine spec_mir Tryz.func85 rfl (by kernel_rfl) (by kernel_rfl) (fun y : Bool => .d (.bool y)) ?_ h
  unfold sp_run
  simp only [List.replicate, List.length, nS, nA, Tryz.ntmps85, SV]
  refine .seqK (.region fun e h => ?_)
  simp only [seval, SE, ENMB]
  refine mU e ?_ h
  refine .seqK (.seqK (.region fun e h => ?_))
  simp only [seval, SE, ENMB]
  refine mU e ?_ h
  refine Mir.join (fun v137 : Unit => (us 39)) (fun v137 => ⟨[], []⟩) (fun _ => rfl) ?_ ?_
  refine .block (Mir.loop (fun v163 : Int => (.d (.list (List.map encApiBlock a0)) :: .d (.int .i64 a1) :: .d (.int .i64 a2) :: U :: U :: U :: U :: U :: U :: U :: .d (.int .i64 a3) :: .d (.int .i64 v163) :: us 27)) (fun v163 => ⟨[], []⟩) (fun _ => rfl) (by simp only [seval, SF, ENMB]) (by simp only [seval, SF, ENMB]) fun v163 => .seqK (.region fun e h => ?_))
  simp only [seval, SE, ENMB]
  refine mU e ?_ h
  refine .seqK (.cond rfl (fun hb77 => ?_) (fun hb77 => ?_))
  refine .skip (Mir.toK (.seqK (.block (.seqK (.region fun e h => ?_)))))
  simp only [seval, SE, ENMB]
  refine mU e ?_ h
  refine .seqK (Mir.joinO (fun v173 : Bool => [.d (.list (List.map encApiBlock a0)), .d (.int .i64 a1), .d (.int .i64 a2), U, U, U, U, U, U, U, .d (.int .i64 a3), .d (.int .i64 v163), U, U, U, U, U, U, U, U, U, U, U, U, U, U, U, U, U, U, U, U, U, U, U, U, U, .d (.bool v173), U]) (fun v173 => ⟨[], []⟩) (fun _ => rfl) ?_ ?_)
  refine .bind fun e169 q84 => ?_
  replace q84 := gt_ok q84
  refine .bind fun y170 hy85 => .ite (fun hb86 => ?_) (fun hb86 => ?_)
  refine .bind fun e171 q87 => ?_
  replace q87 := gt_ok q87
  refine .bind fun y172 hy88 => .regionD [] (by kernel_rfl) fun e h => ?_
  simp only [seval, SE, SB, und_39, sz_31, q84, ag_31, ENMB, hb86]
  refine Spec.by (sp_foldable_spec hy85) (by simp only [seval, SF, ENMB, hb86]) ?_
  simp only [seval, SE, SB, und_39, sz_31, q84, ag_31, q87, ENMB, hb86]
  refine Spec.by (bk_Equal_spec hy88) (by simp only [seval, SF, ENMB, hb86]) ?_
  simp only [seval, SE, SB, ENMB, hb86]
  cases h
  simp only [seval, SF, ENMB, hb86]
  refine .regionD [] (by kernel_rfl) fun e h => ?_
  simp only [seval, SE, SB, und_39, sz_31, q84, ag_31, ENMB, hb86]
  refine Spec.by (sp_foldable_spec hy85) (by simp only [seval, SF, ENMB, hb86]) ?_
  simp only [seval, SE, SB, ENMB, hb86]
  cases h
  simp only [seval, SF, ENMB, hb86]
  intro v173
  refine Mir.toK (.cond rfl (fun hb90 => ?_) (fun hb90 => ?_))
  refine .seqK (.region fun e h => ?_)
  simp only [seval, SE, ENMB]
  refine mU e ?_ h
  refine .ret fun e h => ?_
  cases h
  simp only [seval, SF, ENMB, Tryz.results85]
  refine .skip (Mir.toB (Mir.toK (.region fun e h => ?_)))
  simp only [seval, SE, ENMB]
  cases h
  simp only [seval, SF, ENMB, Tryz.results85]
  refine .exit fun e h => ?_
  cases h
  simp only [seval, SF, ENMB, Tryz.results85]
  intro v137
  refine Mir.toK (.seqK (.region fun e h => ?_))
  simp only [seval, SE, ENMB]
  refine mU e ?_ h
  refine .ret fun e h => ?_
  cases h
  simp only [seval, SF, ENMB, Tryz.results85]

def sp_first (a0 : (List ApiBlock)) (a1 : Int) : Option Int :=
  bindX (loopX (fun (v238 : Int) =>
        if (decide ((IntKind.i64.wrap (v238 + a1)) ≤ (IntKind.i64.wrap ((a0.length : Int) - a1)))) = true then
          bindX (loopX (fun (v261 : Int) =>
                if (decide ((IntKind.i64.wrap (v261 + a1)) ≤ (a0.length : Int))) = true then
                  bindO (sp_run a0 v238 v261 a1) fun (y263 : Bool) =>
                  if y263 = true then
                    some (.ret (.ret (.ret (.ret v238))))
                  else
                    some (.go (IntKind.i64.wrap (v261 + 1)))
                else
                  some (.ret (.go ()))) fuel (IntKind.i64.wrap (v238 + a1))) fun (v251 : Unit) =>
          some (.go (IntKind.i64.wrap (v238 + 1)))
        else
          some (.ret (.go ()))) fuel 0) fun (v182 : Unit) =>
  some (-1)
theorem sp_first_spec {a0 : (List ApiBlock)} {a1 : Int} {y : Int} (h : sp_first a0 a1 = some y) : Spec gP 84 [.d (.list (List.map encApiBlock a0)), .d (.int .i64 a1)] (.d (.int .i64 y)) := by
  refine spec_mir Tryz.func84 rfl (by kernel_rfl) (by kernel_rfl) (fun y : Int => .d (.int .i64 y)) ?_ h
  unfold sp_first
  simp only [List.replicate, List.length, nS, nA, Tryz.ntmps84, SV]
  refine .seqK (.region fun e h => ?_)
  simp only [seval, SE, ENMB]
  refine mU e ?_ h
  refine .seqK (.seqK (.region fun e h => ?_))
  simp only [seval, SE, ENMB]
  refine mU e ?_ h
  refine Mir.join (fun v182 : Unit => (us 34)) (fun v182 => ⟨[], []⟩) (fun _ => rfl) ?_ ?_
  refine .block (Mir.loop (fun v238 : Int => (.d (.list (List.map encApiBlock a0)) :: .d (.int .i64 a1) :: U :: U :: U :: .d (.int .i64 v238) :: us 28)) (fun v238 => ⟨[], []⟩) (fun _ => rfl) (by simp only [seval, SF, ENMB]) (by simp only [seval, SF, ENMB]) fun v238 => .seqK (.seqK (.region fun e h => ?_)))
  simp only [seval, SE, und_39, ENMB]
  refine mU e ?_ h
  refine .cond rfl (fun hb222 => ?_) (fun hb222 => ?_)
  refine .skip (Mir.toK (.seqK (Mir.join (fun v251 : Unit => (.d (.list (List.map encApiBlock a0)) :: .d (.int .i64 a1) :: U :: U :: U :: .d (.int .i64 v238) :: us 28)) (fun v251 => ⟨[], []⟩) (fun _ => rfl) ?_ ?_)))
  refine .block (.seqK (.region fun e h => ?_))
  simp only [seval, SE, ENMB]
  refine mU e ?_ h
  refine .block (Mir.loop (fun v261 : Int => (.d (.list (List.map encApiBlock a0)) :: .d (.int .i64 a1) :: U :: U :: U :: .d (.int .i64 v238) :: .d (.int .i64 v261) :: us 27)) (fun v261 => ⟨[], []⟩) (fun _ => rfl) (by simp only [seval, SF, ENMB]) (by simp only [seval, SF, ENMB]) fun v261 => .seqK (.seqK (.region fun e h => ?_)))
  simp only [seval, SE, und_39, ENMB]
  refine mU e ?_ h
  refine .cond rfl (fun hb259 => ?_) (fun hb259 => ?_)
  refine .skip (Mir.toK (.seqK (.block (.seqK (.bind fun y263 hy262 => .region fun e h => ?_)))))
  simp only [seval, SE, ENMB]
  refine SpecS.by (sp_run_spec hy262) (by simp only [seval, SF, ENMB]) ?_
  simp only [seval, SE, ENMB]
  refine mU e ?_ h
  refine .cond rfl (fun hb264 => ?_) (fun hb264 => ?_)
  refine .seqK (.region fun e h => ?_)
  simp only [seval, SE, ENMB]
  refine mU e ?_ h
  refine .ret fun e h => ?_
  cases h
  simp only [seval, SF, ENMB, Tryz.results84]
  refine .skip (Mir.toB (Mir.toK (.region fun e h => ?_)))
  simp only [seval, SE, ENMB]
  cases h
  simp only [seval, SF, ENMB, Tryz.results84]
  refine .exit fun e h => ?_
  cases h
  simp only [seval, SF, ENMB, Tryz.results84]
  intro v251
  refine Mir.toK (.region fun e h => ?_)
  simp only [seval, SE, ENMB]
  cases h
  simp only [seval, SF, ENMB, Tryz.results84]
  refine .exit fun e h => ?_
  cases h
  simp only [seval, SF, ENMB, Tryz.results84]
  intro v182
  refine Mir.toK (.seqK (.region fun e h => ?_))
  simp only [seval, SE, ENMB]
  refine mU e ?_ h
  refine .ret fun e h => ?_
  cases h
  simp only [seval, SF, ENMB, Tryz.results84]

def slices_Clone_api_Block_api_Block (a0 : List ApiBlock) : Option (List ApiBlock) := guardO (okLen a0.length) (some a0)
theorem slices_Clone_api_Block_api_Block_n {c0 : Nat} {y : List ApiBlock} (h : (some []) = some y) : Spec gP 55 [.d (.other (.slice none 0 c0))] (.d (.list (List.map encApiBlock y))) := by
  refine spec_mir Tryz.func55 rfl (by kernel_rfl) (by kernel_rfl) (fun y : List ApiBlock => .d (.list (List.map encApiBlock y))) ?_ h
  simp only [List.replicate, List.length, nS, nA, Tryz.ntmps55, SV]
  refine .seqK (.region fun e h => ?_)
  simp only [seval, SE, ENMB]
  refine mU e ?_ h
  refine .seqK (.seqK (.region fun e h => ?_))
  simp only [seval, SE, und_39, ENMB]
  refine mU e ?_ h
  refine .condT rfl (.seqK (.region fun e h => ?_))
  simp only [seval, SE, ENMB]
  refine mU e ?_ h
  refine .ret fun e h => ?_
  cases h
  simp only [seval, SF, ENMB, Tryz.results55]
theorem slices_Clone_api_Block_api_Block_o {p0 : Addr} {c0 : Nat} {y : List ApiBlock} (h : (some []) = some y) : Spec gP 55 [.d (.other (.slice (some p0) 0 c0))] (.d (.list (List.map encApiBlock y))) := by
  refine spec_mir Tryz.func55 rfl (by kernel_rfl) (by kernel_rfl) (fun y : List ApiBlock => .d (.list (List.map encApiBlock y))) ?_ h
  simp only [List.replicate, List.length, nS, nA, Tryz.ntmps55, SV]
  refine .seqK (.region fun e h => ?_)
  simp only [seval, SE, ENMB]
  refine mU e ?_ h
  refine .seqK (.seqK (.region fun e h => ?_))
  simp only [seval, SE, und_39, ENMB]
  refine mU e ?_ h
  refine .condF rfl (.skip (Mir.toK (.seqK (.region fun e h => ?_))))
  simp only [seval, SE, und_39, sz_31, zero_31, (nr rfl : okLen 0 = true), app_39, al_ApiBlock, List.all_cons, List.all_nil, ENMB]
  refine mU e ?_ h
  refine .ret fun e h => ?_
  cases h
  simp only [seval, SF, ENMB, Tryz.results55]
theorem slices_Clone_api_Block_api_Block_c {x0 : ApiBlock} {l0 : List ApiBlock} {y : List ApiBlock} (h : (guardO (okLen ((x0 :: l0).length)) (   some (x0 :: l0))) = some y) : Spec gP 55 [.d (.list (List.map encApiBlock (x0 :: l0)))] (.d (.list (List.map encApiBlock y))) := by
  refine spec_mir Tryz.func55 rfl (by kernel_rfl) (by kernel_rfl) (fun y : List ApiBlock => .d (.list (List.map encApiBlock y))) ?_ h
  simp only [List.replicate, List.length, nS, nA, Tryz.ntmps55, SV]
  refine .seqK (.region fun e h => ?_)
  simp only [seval, SE, ENMB]
  refine mU e ?_ h
  refine .seqK (.seqK (.region fun e h => ?_))
  simp only [seval, SE, und_39, ENMB]
  refine mU e ?_ h
  refine .condF rfl (.skip (Mir.toK (.seqK (.guard fun q1 => .region fun e h => ?_))))
  simp only [seval, SE, und_39, sz_31, zero_31, (nr rfl : okLen 0 = true), app_39, al_ApiBlock, q1, ENMB]
  refine mU e ?_ h
  refine .ret fun e h => ?_
  cases h
  simp only [seval, SF, ENMB, Tryz.results55]
theorem slices_Clone_api_Block_api_Block_spec {a0 : List ApiBlock} {y : List ApiBlock} (h : slices_Clone_api_Block_api_Block a0 = some y) : Spec gP 55 [.d (.list (List.map encApiBlock a0))] (.d (.list (List.map encApiBlock y))) := by
  obtain ⟨hl, h⟩ := guardO_some h
  cases h
  cases a0 with
  | nil =>
    refine Spec.nilcase fun A c => ?_
    cases A with
    | none => exact slices_Clone_api_Block_api_Block_n rfl
    | some p => exact slices_Clone_api_Block_api_Block_o rfl
  | cons x l => exact slices_Clone_api_Block_api_Block_c (by simp only [guardO, hl])
theorem slices_Clone_api_Block_api_Block_On {c0 : Nat} {y : List ApiBlock} (h : (some []) = some y) : SpecO gP 55 [.d (.other (.slice none 0 c0))] 31 (List.map encApiBlock y) := by
  refine specO_mir Tryz.func55 rfl (by kernel_rfl) (by kernel_rfl) (fun y : List ApiBlock => List.map encApiBlock y) ?_ h
  simp only [List.replicate, List.length, nS, nA, Tryz.ntmps55, SV]
  refine .seqK (.region fun e h => ?_)
  simp only [seval, SE, ENMB]
  refine mU e ?_ h
  refine .seqK (.seqK (.region fun e h => ?_))
  simp only [seval, SE, und_39, ENMB]
  refine mU e ?_ h
  refine .condT rfl (.seqK (.region fun e h => ?_))
  simp only [seval, SE, ENMB]
  refine mU e ?_ h
  refine .ret fun e h => ?_
  cases h
  simp only [seval, SF, ENMB, Tryz.results55, fy_r, fy_n, yr_o, yr_n]
theorem slices_Clone_api_Block_api_Block_Oo {p0 : Addr} {c0 : Nat} {y : List ApiBlock} (h : (some []) = some y) : SpecO gP 55 [.d (.other (.slice (some p0) 0 c0))] 31 (List.map encApiBlock y) := by
  refine specO_mir Tryz.func55 rfl (by kernel_rfl) (by kernel_rfl) (fun y : List ApiBlock => List.map encApiBlock y) ?_ h
  simp only [List.replicate, List.length, nS, nA, Tryz.ntmps55, SV]
  refine .seqK (.region fun e h => ?_)
  simp only [seval, SE, ENMB]
  refine mU e ?_ h
  refine .seqK (.seqK (.region fun e h => ?_))
  simp only [seval, SE, und_39, ENMB]
  refine mU e ?_ h
  refine .condF rfl (.skip (Mir.toK (.seqK (.regionW fun e h => regW.alt 0 rfl ?_))))
  simp only [seval, SE, w_none, w_eq, ENMB]
  refine alt_emptyOwn app_39 (regW.of ?_)
  simp only [seval, SE, w_none, w_eq, und_39, sz_31, zero_31, (nr rfl : okLen 0 = true), app_39, al_ApiBlock, ENMB]
  refine mU e ?_ h
  refine .ret fun e h => ?_
  cases h
  simp only [seval, SF, ENMB, Tryz.results55, fy_r, fy_n, yr_o, yr_n]
theorem slices_Clone_api_Block_api_Block_Oc {x0 : ApiBlock} {l0 : List ApiBlock} {y : List ApiBlock} (h : (guardO (okLen (0 + (x0 :: l0).length)) (   some ([] ++ (x0 :: l0)))) = some y) : SpecO gP 55 [.d (.list (List.map encApiBlock (x0 :: l0)))] 31 (List.map encApiBlock y) := by
  refine specO_mir Tryz.func55 rfl (by kernel_rfl) (by kernel_rfl) (fun y : List ApiBlock => List.map encApiBlock y) ?_ h
  simp only [List.replicate, List.length, nS, nA, Tryz.ntmps55, SV]
  refine .seqK (.region fun e h => ?_)
  simp only [seval, SE, ENMB]
  refine mU e ?_ h
  refine .seqK (.seqK (.region fun e h => ?_))
  simp only [seval, SE, und_39, ENMB]
  refine mU e ?_ h
  refine .condF rfl (.skip (Mir.toK (.seqK (.guard fun q1 => .regionW fun e h => regW.alt 0 rfl ?_))))
  simp only [seval, SE, w_none, w_eq, ENMB]
  refine alt_emptyOwn app_39 (regW.of ?_)
  simp only [seval, SE, w_none, w_eq, und_39, sz_31, zero_31, (nr rfl : okLen 0 = true), app_39, al_ApiBlock, q1, ENMB]
  refine mU e ?_ h
  refine .ret fun e h => ?_
  cases h
  simp only [seval, SF, ENMB, Tryz.results55, fy_r, fy_n, yr_o, yr_n]
theorem slices_Clone_api_Block_api_Block_specO {a0 : List ApiBlock} {y : List ApiBlock} (h : slices_Clone_api_Block_api_Block a0 = some y) : SpecO gP 55 [.d (.list (List.map encApiBlock a0))] 31 (List.map encApiBlock y) := by
  obtain ⟨hl, h⟩ := guardO_some h
  cases h
  cases a0 with
  | nil =>
    refine SpecO.nilcase fun A c => ?_
    cases A with
    | none => exact slices_Clone_api_Block_api_Block_On rfl
    | some p => exact slices_Clone_api_Block_api_Block_Oo rfl
  | cons x l => exact slices_Clone_api_Block_api_Block_Oc (by simp only [guardO, Nat.zero_add, List.nil_append, hl])

def sp_Fold (a0 : (List ApiBlock)) (a1 : Int) (a2 : Int) : Option (SubprogramProgram × Int) :=
  if ((decide (a1 < 1)) || ((decide (a1 > 9999)) || (decide (a2 < 1)))) = true then
    some (SubprogramProgram.mk [] [], 1)
  else
    bindO (if (decide (a2 ≤ (IntKind.i64.wrap (Int.tdiv (a0.length : Int) 2)))) = true then
          bindO (sp_first a0 a2) fun (y103 : Int) =>
          some y103
        else
          some (-1)) fun (v102 : Int) =>
    if (decide (v102 < 0)) = true then
      bindO (slices_Clone_api_Block_api_Block a0) fun (y105 : (List ApiBlock)) =>
      some (SubprogramProgram.mk y105 [], 0)
    else
      bindO (loopX (fun (v161 : (List ApiBlock) × Int) =>
            if (decide (v161.2 < (a0.length : Int))) = true then
              bindO (if (decide ((IntKind.i64.wrap (v161.2 + a2)) ≤ (a0.length : Int))) = true then
                    bindO (sp_run a0 v102 v161.2 a2) fun (y162 : Bool) =>
                    some y162
                  else
                    some false) fun (v163 : Bool) =>
              if v163 = true then
                guardO (okLen (v161.1.length + 1)) (
                some (.go (v161.1 ++ [ApiBlock.mk false [ApiWord.mk 77 98000, ApiWord.mk 80 (IntKind.i64.wrap (1000 * a1))] []], IntKind.i64.wrap (v161.2 + a2))))
              else
                bindO (gt a0 v161.2) fun (e164 : ApiBlock) =>
                guardO (okLen (v161.1.length + 1)) (
                some (.go (v161.1 ++ [e164], IntKind.i64.wrap (v161.2 + 1))))
            else
              some (.ret v161.1)) fuel ([], 0)) fun (v146 : (List ApiBlock)) =>
      bindO (cutL a0 v102 (IntKind.i64.wrap (v102 + a2))) fun (s165 : (List ApiBlock)) =>
      bindO (slices_Clone_api_Block_api_Block s165) fun (y166 : (List ApiBlock)) =>
      some (SubprogramProgram.mk v146 [SubprogramSub.mk a1 y166], 0)
theorem sp_Fold_spec {a0 : (List ApiBlock)} {a1 : Int} {a2 : Int} {y : SubprogramProgram × Int} (h : sp_Fold a0 a1 a2 = some y) : Spec gP 42 [.d (.list (List.map encApiBlock a0)), .d (.int .i64 a1), .d (.int .i64 a2)] (.tuple [.agg [.d (.list (List.map encApiBlock y.1.Main)), .d (.list (List.map encSubprogramSub y.1.Subs))], .d (.int .i64 y.2)]) := by
  refine spec_mir Tryz.func42 rfl (by kernel_rfl) (by kernel_rfl) (fun y : SubprogramProgram × Int => .tuple [.agg [.d (.list (List.map encApiBlock y.1.Main)), .d (.list (List.map encSubprogramSub y.1.Subs))], .d (.int .i64 y.2)]) ?_ h
  unfold sp_Fold
  simp only [List.replicate, List.length, nS, nA, Tryz.ntmps42, SV]
  refine .seqK (.region fun e h => ?_)
  simp only [seval, SE, zero_63, ENMB]
  refine mU e ?_ h
  refine .seqK (.seqK (.joinV (.d (.list (List.map encApiBlock a0)) :: .d (.int .i64 a1) :: .d (.int .i64 a2) :: U :: U :: U :: .ptr 0 0 :: U :: U :: U :: U :: U :: U :: U :: U :: U :: U :: U :: U :: U :: .d (.bool ((decide (a1 < 1)) || ((decide (a1 > 9999)) || (decide (a2 < 1))))) :: us 64) ⟨[[.nil, .nil]], []⟩ rfl ?_ ?_))
  refine SWs.region ?_
  rcases Bool.eq_false_or_eq_true (decide (a1 < 1)) with hb1 | hb1
  simp only [seval, SE, SL, PB, hb1, ENMB]
  rcases Bool.eq_false_or_eq_true (decide (a1 > 9999)) with hb2 | hb2
  simp only [seval, SE, SL, PB, hb1, hb2, ENMB]
  simp only [seval, SE, SL, PB, hb1, hb2, ENMB]
  refine Mir.toK (.cond rfl (fun hb4 => ?_) (fun hb4 => ?_))
  refine .seqK (.region fun e h => ?_)
  simp only [seval, SE, zero_63, pl_63, sz_63, ENMB]
  refine mU e ?_ h
  refine .ret fun e h => ?_
  cases h
  simp only [seval, SF, ENMB, Tryz.results42, ag_63, sz_63]
  refine .skip (Mir.toK (.seqK (.region fun e h => ?_)))
  simp only [seval, SE, ENMB]
  refine mU e ?_ h
  refine .seqK (.seqK (.region fun e h => ?_))
  simp only [seval, SE, und_39, ENMB]
  refine mU e ?_ h
  refine Mir.joinO (fun v102 : Int => (.d (.list (List.map encApiBlock a0)) :: .d (.int .i64 a1) :: .d (.int .i64 a2) :: U :: U :: U :: .ptr 0 0 :: U :: .d (.int .i64 v102) :: us 76)) (fun v102 => ⟨[[.nil, .nil]], []⟩) (fun _ => rfl) ?_ ?_
  refine .cond rfl (fun hb7 => ?_) (fun hb7 => ?_)
  refine .bind fun y103 hy8 => .region fun e h => ?_
  simp only [seval, SE, ENMB]
  refine SpecS.by (sp_first_spec hy8) (by simp only [seval, SF, ENMB]) ?_
  simp only [seval, SE, ENMB]
  cases h
  simp only [seval, SF, ENMB, Tryz.results42, ag_63, sz_63]
  refine .skip fun e h => ?_
  cases h
  simp only [seval, SF, ENMB, Tryz.results42, ag_63, sz_63]
  intro v102
  refine Mir.toK (.seqK (.seqK (.region fun e h => ?_)))
  simp only [seval, SE, ENMB]
  refine mU e ?_ h
  refine .cond rfl (fun hb11 => ?_) (fun hb11 => ?_)
  refine .seqK (.bind fun y105 hy12 => .region fun e h => ?_)
  simp only [seval, SE, ENMB]
  refine SpecS.by (slices_Clone_api_Block_api_Block_spec hy12) (by simp only [seval, SF, ENMB]) ?_
  simp only [seval, SE, zero_63, pl_63, sz_63, ENMB]
  refine mU e ?_ h
  refine .ret fun e h => ?_
  cases h
  simp only [seval, SF, ENMB, Tryz.results42, ag_63, sz_63]
  refine .skip (Mir.toK (.seqK (.region fun e h => ?_)))
  simp only [seval, SE, ENMB]
  refine mU e ?_ h
  refine .seqK (.seqK (.region fun e h => ?_))
  simp only [seval, SE, ENMB]
  refine mU e ?_ h
  refine .gh [.slot 9 31] rfl (Mir.joinO (fun v146 : (List ApiBlock) => (.d (.list (List.map encApiBlock a0)) :: .d (.int .i64 a1) :: .d (.int .i64 a2) :: U :: U :: U :: .ptr 0 0 :: U :: .d (.int .i64 v102) :: .own 0 (List.map encApiBlock v146) :: us 75)) (fun v146 => ⟨[[.nil, .nil]], [(31, v146.length)]⟩) (fun _ => rfl) ?_ ?_)
  refine .block (Mir.loop (fun v161 : (List ApiBlock) × Int => (.d (.list (List.map encApiBlock a0)) :: .d (.int .i64 a1) :: .d (.int .i64 a2) :: U :: U :: U :: .ptr 0 0 :: U :: .d (.int .i64 v102) :: .own 0 (List.map encApiBlock v161.1) :: .d (.int .i64 v161.2) :: us 74)) (fun v161 => ⟨[[.nil, .nil]], [(31, v161.1.length)]⟩) (fun _ => rfl) (by simp only [seval, SF, ENMB]) (by simp only [seval, SF, ENMB]) fun v161 => .seqK (.seqK (.region fun e h => ?_)))
  simp only [seval, SE, und_39, ENMB]
  refine mU e ?_ h
  refine .cond rfl (fun hb122 => ?_) (fun hb122 => ?_)
  refine .skip (Mir.toK (.block (.seqK (.seqK (Mir.joinO (fun v163 : Bool => (.d (.list (List.map encApiBlock a0)) :: .d (.int .i64 a1) :: .d (.int .i64 a2) :: U :: U :: U :: .ptr 0 0 :: U :: .d (.int .i64 v102) :: .own 0 (List.map encApiBlock v161.1) :: .d (.int .i64 v161.2) :: U :: U :: U :: U :: U :: U :: U :: U :: U :: U :: U :: U :: U :: U :: U :: U :: U :: U :: U :: U :: U :: U :: U :: U :: U :: U :: U :: U :: U :: U :: U :: U :: U :: U :: U :: U :: U :: U :: U :: U :: .d (.bool v163) :: us 33)) (fun v163 => ⟨[[.nil, .nil]], [(31, v161.1.length)]⟩) (fun _ => rfl) ?_ ?_)))))
  refine .ite (fun hb123 => ?_) (fun hb123 => ?_)
  refine .bind fun y162 hy124 => .region fun e h => ?_
  simp only [seval, SE, und_39, ENMB, hb123]
  refine SpecS.by (sp_run_spec hy124) (by simp only [seval, SF, ENMB, hb123]) ?_
  simp only [seval, SE, ENMB, hb123]
  cases h
  simp only [seval, SF, ENMB, hb123]
  refine .region fun e h => ?_
  simp only [seval, SE, und_39, ENMB, hb123]
  cases h
  simp only [seval, SF, ENMB, hb123]
  intro v163
  refine Mir.toK (.cond rfl (fun hb127 => ?_) (fun hb127 => ?_))
  refine .seqK (.guard fun q128 => .region fun e h => ?_)
  simp only [seval, SE, zero_77, pl_77, und_29, sz_77, (nr rfl : okLen 4 = true), zero_31, pl_31, und_39, sz_31, (nr rfl : okLen 3 = true), app_39, al_ApiBlock, q128, ENMB]
  refine mU e ?_ h
  refine .seqK (.region fun e h => ?_)
  simp only [seval, SE, ENMB]
  refine mU e ?_ h
  refine .exit fun e h => ?_
  cases h
  simp only [seval, SF, ENMB, Tryz.results42, ag_63, sz_63]
  refine .skip (Mir.toK (.seqK (.bind fun e164 q129 => ?_)))
  replace q129 := gt_ok q129
  refine .guard fun q130 => .region fun e h => ?_
  simp only [seval, SE, und_39, sz_31, q129, ag_31, zero_31, (nr rfl : okLen 3 = true), app_39, al_ApiBlock, q130, ENMB]
  refine mU e ?_ h
  refine .region fun e h => ?_
  simp only [seval, SE, ENMB]
  cases h
  simp only [seval, SF, ENMB, Tryz.results42, ag_63, sz_63]
  refine .exit fun e h => ?_
  cases h
  simp only [seval, SF, ENMB, Tryz.results42, ag_63, sz_63]
  intro v146
  refine Mir.toK (.seqK (.bind fun s165 q131 => ?_))
  replace q131 := cutL_ok q131
  refine .bind fun y166 hy132 => .region fun e h => ?_
  simp only [seval, SE, und_39, sz_31, q131, Nat.le_refl, and_true, true_and, dm, tm, al_ApiBlock, ENMB]
  refine SpecS.by (slices_Clone_api_Block_api_Block_spec hy132) (by simp only [seval, SF, ENMB]) ?_
  simp only [seval, SE, zero_105, pl_105, und_61, sz_105, (nr rfl : okLen 2 = true), zero_63, pl_63, sz_63, ENMB]
  refine mU e ?_ h
  refine .ret fun e h => ?_
  cases h
  simp only [seval, SF, ENMB, Tryz.results42, ag_63, sz_63]

def sp_Join (a0 : SubprogramProgram) : Option (List ApiBlock) :=
  bindO (slices_Clone_api_Block_api_Block a0.Main) fun (y101 : (List ApiBlock)) =>
  bindO (guardO (okIdx a0.Subs) (
      rangeX (fun (i128 : Nat) (e130 : SubprogramSub) (v129 : (List ApiBlock)) =>
        guardO (okLen (v129.length + 1)) (
        guardO (okLen (v129.length + 1 + e130.Blocks.length)) (
        guardO (okLen (v129.length + 1 + e130.Blocks.length + 1)) (
        some (.go (v129 ++ [ApiBlock.mk false [ApiWord.mk 79 (IntKind.i64.wrap (1000 * e130.Number))] []] ++ e130.Blocks ++ [ApiBlock.mk false [ApiWord.mk 77 99000] []])))))) (fun (v129 : (List ApiBlock)) => some v129) a0.Subs 0 y101)) fun (v116 : (List ApiBlock)) =>
  some v116
theorem sp_Join_spec {a0 : SubprogramProgram} {y : (List ApiBlock)} (h : sp_Join a0 = some y) : Spec gP 43 [.agg [.d (.list (List.map encApiBlock a0.Main)), .d (.list (List.map encSubprogramSub a0.Subs))]] (.d (.list (List.map encApiBlock y))) := by
  refine spec_mir Tryz.func43 rfl (by kernel_rfl) (by kernel_rfl) (fun y : (List ApiBlock) => .d (.list (List.map encApiBlock y))) ?_ h
  unfold sp_Join
  simp only [List.replicate, List.length, nS, nA, Tryz.ntmps43, SV]
  refine .seqK (.region fun e h => ?_)
  simp only [seval, SE, ENMB]
  refine mU e ?_ h
  refine .seqK (.bind fun y101 hy1 => .region fun e h => ?_)
  simp only [seval, SE, fld_63_0, sz_39, ag_39, ENMB]
  refine SpecO.toS (slices_Clone_api_Block_api_Block_specO hy1) (by simp only [seval, SF, ENMB]) ?_
  simp only [seval, SE, ENMB]
  refine mU e ?_ h
  refine .seqK (.seqK (.region fun e h => ?_))
  simp only [seval, SE, fld_63_1, sz_61, ag_61, und_61, ENMB]
  refine mU e ?_ h
  refine Mir.joinO (fun v116 : (List ApiBlock) => (U :: U :: U :: .own 0 (List.map encApiBlock v116) :: us 33)) (fun v116 => ⟨[[.d (.list (List.map encApiBlock a0.Main)), .d (.list (List.map encSubprogramSub a0.Subs))]], [(31, v116.length)]⟩) (fun _ => rfl) ?_ ?_
  refine .block (.guard fun qg73 => Mir.range (fun (i128 : Nat) (v129 : (List ApiBlock)) => (U :: U :: U :: .own 0 (List.map encApiBlock v129) :: U :: U :: U :: U :: U :: U :: .d (.list (List.map encSubprogramSub a0.Subs)) :: .d (.int .i64 (a0.Subs.length : Int)) :: .d (.int .i64 (i128 : Int)) :: us 24)) (fun i128 v129 => ⟨[[.d (.list (List.map encApiBlock a0.Main)), .d (.list (List.map encSubprogramSub a0.Subs))]], [(31, v129.length)]⟩) qg73 (fun _ _ => rfl) (by simp only [seval, SF, ENMB, (nr rfl : ((0 : Nat) : Int) = 0)]) (by simp only [seval, SF, ENMB, (nr rfl : ((0 : Nat) : Int) = 0)]) ?_ ?_)
  intro i128 e130 v129 qr71
  refine .seqK (.region fun e h => ?_)
  simp only [seval, SE, qr71, ENMB]
  refine mU e ?_ h
  refine .seqK (.condT rfl (.skip (Mir.toK (.seqK (.block (.seqK (.region fun e h => ?_)))))))
  simp only [seval, SE, und_61, sz_105, qr71, Int.toNat_natCast, ag_105, zero_105, ENMB]
  refine mU e ?_ h
  refine .seqK (.guard fun q77 => .region fun e h => ?_)
  simp only [seval, SE, fld_105_0, sz_2, ag_2, zero_77, pl_77, und_29, sz_77, (nr rfl : okLen 2 = true), zero_31, pl_31, und_39, sz_31, (nr rfl : okLen 3 = true), app_39, al_ApiBlock, q77, ENMB]
  refine mU e ?_ h
  refine .seqK (.guard fun q78 => .region fun e h => ?_)
  simp only [seval, SE, fld_105_1, sz_39, ag_39, app_39, al_ApiBlock, xLA, q78, ENMB]
  refine mU e ?_ h
  refine .guard fun q79 => .region fun e h => ?_
  simp only [seval, SE, zero_77, pl_77, und_29, sz_77, (nr rfl : okLen 2 = true), zero_31, pl_31, und_39, sz_31, (nr rfl : okLen 3 = true), app_39, al_ApiBlock, xLA, q79, ENMB]
  refine mU e ?_ h
  refine .region fun e h => ?_
  simp only [seval, SE, ENMB]
  cases h
  simp only [seval, SF, ENMB, Tryz.results43, qr71]
  intro v129 qd72
  refine .seqK (.region fun e h => ?_)
  simp only [seval, SE, qd72, ENMB]
  refine mU e ?_ h
  refine .seqK (.condF rfl (.exit fun e h => ?_))
  cases h
  simp only [seval, SF, ENMB, Tryz.results43]
  intro v116
  refine Mir.toK (.seqK (.region fun e h => ?_))
  simp only [seval, SE, ENMB]
  refine mU e ?_ h
  refine .ret fun e h => ?_
  cases h
  simp only [seval, SF, ENMB, Tryz.results43]

def bk_Find (a0 : ApiBlock) (a1 : Int) : Option (Int × Bool) :=
  bindX (guardO (okIdx a0.Words) (
      rangeX (fun (i127 : Nat) (e129 : ApiWord) (v128 : Unit) =>
        if (e129.Letter == a1) = true then
          some (.ret (.ret (e129.Value, true)))
        else
          some (.go ())) (fun (v128 : Unit) => some (.go ())) a0.Words 0 ())) fun (v115 : Unit) =>
  some (0, false)
theorem bk_Find_spec {a0 : ApiBlock} {a1 : Int} {y : Int × Bool} (h : bk_Find a0 a1 = some y) : Spec gP 86 [.agg [.d (.bool a0.Skip), .d (.list (List.map encApiWord a0.Words)), .d (.str a0.Comment)], .d (.int .u8 a1)] (.tuple [.d (.int .i64 y.1), .d (.bool y.2)]) := by
  refine spec_mir Tryz.func86 rfl (by kernel_rfl) (by kernel_rfl) (fun y : Int × Bool => .tuple [.d (.int .i64 y.1), .d (.bool y.2)]) ?_ h
  unfold bk_Find
  simp only [List.replicate, List.length, nS, nA, Tryz.ntmps86, SV]
  refine .seqK (.region fun e h => ?_)
  simp only [seval, SE, ENMB]
  refine mU e ?_ h
  refine .seqK (.seqK (.region fun e h => ?_))
  simp only [seval, SE, fld_31_1, sz_29, ag_29, und_29, ENMB]
  refine mU e ?_ h
  refine Mir.join (fun v115 : Unit => (us 22)) (fun v115 => ⟨[[.d (.bool a0.Skip), .d (.list (List.map encApiWord a0.Words)), .d (.str a0.Comment)]], []⟩) (fun _ => rfl) ?_ ?_
  refine .block (.guard fun qg51 => Mir.range (fun (i127 : Nat) (v128 : Unit) => (U :: .d (.int .u8 a1) :: U :: U :: U :: U :: U :: U :: U :: .d (.list (List.map encApiWord a0.Words)) :: .d (.int .i64 (a0.Words.length : Int)) :: .d (.int .i64 (i127 : Int)) :: us 10)) (fun i127 v128 => ⟨[[.d (.bool a0.Skip), .d (.list (List.map encApiWord a0.Words)), .d (.str a0.Comment)]], []⟩) qg51 (fun _ _ => rfl) (by simp only [seval, SF, ENMB, (nr rfl : ((0 : Nat) : Int) = 0)]) (by simp only [seval, SF, ENMB, (nr rfl : ((0 : Nat) : Int) = 0)]) ?_ ?_)
  intro i127 e129 v128 qr49
  refine .seqK (.region fun e h => ?_)
  simp only [seval, SE, qr49, ENMB]
  refine mU e ?_ h
  refine .seqK (.condT rfl (.skip (Mir.toK (.seqK (.block (.seqK (.region fun e h => ?_)))))))
  simp only [seval, SE, und_29, sz_77, qr49, Int.toNat_natCast, ag_77, zero_77, ENMB]
  refine mU e ?_ h
  refine .seqK (.region fun e h => ?_)
  simp only [seval, SE, fld_77_0, sz_5, ag_5, ENMB]
  refine mU e ?_ h
  refine .cond rfl (fun hb54 => ?_) (fun hb54 => ?_)
  refine .seqK (.region fun e h => ?_)
  simp only [seval, SE, fld_77_1, sz_2, ag_2, ENMB]
  refine mU e ?_ h
  refine .ret fun e h => ?_
  cases h
  simp only [seval, SF, ENMB, Tryz.results86]
  refine .skip (Mir.toB (Mir.toK (.region fun e h => ?_)))
  simp only [seval, SE, ENMB]
  cases h
  simp only [seval, SF, ENMB, Tryz.results86, qr49]
  intro v128 qd50
  refine .seqK (.region fun e h => ?_)
  simp only [seval, SE, qd50, ENMB]
  refine mU e ?_ h
  refine .seqK (.condF rfl (.exit fun e h => ?_))
  cases h
  simp only [seval, SF, ENMB, Tryz.results86]
  intro v115
  refine Mir.toK (.seqK (.region fun e h => ?_))
  simp only [seval, SE, ENMB]
  refine mU e ?_ h
  refine .ret fun e h => ?_
  cases h
  simp only [seval, SF, ENMB, Tryz.results86]

def po_returns (a0 : ApiBlock) : Option Bool :=
  bindO (bk_Codes a0 77) fun (y101 : (List Int)) =>
  bindX (guardO (okIdx y101) (
      rangeX (fun (i128 : Nat) (e130 : Int) (v129 : Unit) =>
        if (e130 == 99000) = true then
          some (.ret (.ret true))
        else
          some (.go ())) (fun (v129 : Unit) => some (.go ())) y101 0 ())) fun (v116 : Unit) =>
  some false
theorem po_returns_spec {a0 : ApiBlock} {y : Bool} (h : po_returns a0 = some y) : Spec gP 87 [.agg [.d (.bool a0.Skip), .d (.list (List.map encApiWord a0.Words)), .d (.str a0.Comment)]] (.d (.bool y)) := by
  refine spec_mir Tryz.func87 rfl (by kernel_rfl) (by kernel_rfl) (fun y : Bool => .d (.bool y)) ?_ h
  unfold po_returns
  simp only [List.replicate, List.length, nS, nA, Tryz.ntmps87, SV]
  refine .seqK (.region fun e h => ?_)
  simp only [seval, SE, ENMB, eInt]
  refine mU e ?_ h
  refine .seqK (.seqK (.bind fun y101 hy1 => .region fun e h => ?_))
  simp only [seval, SE, ag_31, sz_31, ENMB, eInt]
  refine SpecS.by (bk_Codes_spec hy1) (by simp only [seval, SF, ENMB, eInt]) ?_
  simp only [seval, SE, und_121, ENMB, eInt]
  refine mU e ?_ h
  refine Mir.join (fun v116 : Unit => (us 15)) (fun v116 => ⟨[[.d (.bool a0.Skip), .d (.list (List.map encApiWord a0.Words)), .d (.str a0.Comment)]], []⟩) (fun _ => rfl) ?_ ?_
  refine .block (.guard fun qg52 => Mir.range (fun (i128 : Nat) (v129 : Unit) => (U :: U :: U :: U :: U :: U :: .d (.list (List.map (eInt .i64) y101)) :: .d (.int .i64 (y101.length : Int)) :: .d (.int .i64 (i128 : Int)) :: us 6)) (fun i128 v129 => ⟨[[.d (.bool a0.Skip), .d (.list (List.map encApiWord a0.Words)), .d (.str a0.Comment)]], []⟩) qg52 (fun _ _ => rfl) (by simp only [seval, SF, ENMB, eInt, (nr rfl : ((0 : Nat) : Int) = 0)]) (by simp only [seval, SF, ENMB, eInt, (nr rfl : ((0 : Nat) : Int) = 0)]) ?_ ?_)
  intro i128 e130 v129 qr50
  refine .seqK (.region fun e h => ?_)
  simp only [seval, SE, qr50, ENMB, eInt]
  refine mU e ?_ h
  refine .seqK (.condT rfl (.skip (Mir.toK (.seqK (.block (.seqK (.region fun e h => ?_)))))))
  simp only [seval, SE, und_121, sz_2, qr50, Int.toNat_natCast, ag_2, ENMB, eInt]
  refine mU e ?_ h
  refine .seqK (.region fun e h => ?_)
  simp only [seval, SE, ENMB, eInt]
  refine mU e ?_ h
  refine .cond rfl (fun hb55 => ?_) (fun hb55 => ?_)
  refine .seqK (.region fun e h => ?_)
  simp only [seval, SE, ENMB, eInt]
  refine mU e ?_ h
  refine .ret fun e h => ?_
  cases h
  simp only [seval, SF, ENMB, eInt, Tryz.results87]
  refine .skip (Mir.toB (Mir.toK (.region fun e h => ?_)))
  simp only [seval, SE, ENMB, eInt]
  cases h
  simp only [seval, SF, ENMB, eInt, Tryz.results87, qr50]
  intro v129 qd51
  refine .seqK (.region fun e h => ?_)
  simp only [seval, SE, qd51, ENMB, eInt]
  refine mU e ?_ h
  refine .seqK (.condF rfl (.exit fun e h => ?_))
  cases h
  simp only [seval, SF, ENMB, eInt, Tryz.results87]
  intro v116
  refine Mir.toK (.seqK (.region fun e h => ?_))
  simp only [seval, SE, ENMB, eInt]
  refine mU e ?_ h
  refine .ret fun e h => ?_
  cases h
  simp only [seval, SF, ENMB, eInt, Tryz.results87]

def po_numbered (a0 : (List ApiBlock)) (a1 : Int) : Option (List ApiBlock) :=
  bindO (guardO (okIdx a0) (
      rangeX (fun (i288 : Nat) (e290 : ApiBlock) (v289 : (List ApiBlock) × Int) =>
        bindO (bk_Find e290 79) fun (y297 : Int × Bool) =>
        bindO (if y297.2 = true then
              some false
            else
              bindO (po_returns e290) fun (y298 : Bool) =>
              some (!y298)) fun (v299 : Bool) =>
        bindO (if v299 = true then
              bindO (po_whole 78 v289.2) fun (y302 : ApiWord) =>
              guardO (okLen (1 + e290.Words.length)) (
              some (IntKind.i64.wrap (v289.2 + a1), [y302] ++ e290.Words))
            else
              some (v289.2, e290.Words)) fun (v301 : Int × (List ApiWord)) =>
        guardO (okLen (v289.1.length + 1)) (
        some (.go (v289.1 ++ [ApiBlock.mk e290.Skip v301.2 e290.Comment], v301.1)))) (fun (v289 : (List ApiBlock) × Int) => some v289.1) a0 0 ([], a1))) fun (v240 : (List ApiBlock)) =>
  some v240
set_option maxHeartbeats 8000000 in
theorem po_numbered_spec {a0 : (List ApiBlock)} {a1 : Int} {y : (List ApiBlock)} (h : po_numbered a0 a1 = some y) : Spec gP 44 [.d (.list (List.map encApiBlock a0)), .d (.int .i64 a1)] (.d (.list (List.map encApiBlock y))) := by
  refine spec_mir Tryz.func44 rfl (by kernel_rfl) (by kernel_rfl) (fun y : (List ApiBlock) => .d (.list (List.map encApiBlock y))) ?_ h
  unfold po_numbered
  simp only [List.replicate, List.length, nS, nA, Tryz.ntmps44, SV]
  refine .seqK (.region fun e h => ?_)
  simp only [seval, SE, ENMB]
  refine mU e ?_ h
  refine .seqK (.region fun e h => ?_)
  simp only [seval, SE, ENMB]
  refine mU e ?_ h
  refine .seqK (.region fun e h => ?_)
  simp only [seval, SE, ENMB]
  refine mU e ?_ h
  refine .seqK (.seqK (.region fun e h => ?_))
  simp only [seval, SE, und_39, ENMB]
  refine mU e ?_ h
  refine .gh [.slot 5 31] rfl (Mir.joinO (fun v240 : (List ApiBlock) => (U :: U :: U :: U :: U :: .own 0 (List.map encApiBlock v240) :: us 40)) (fun v240 => ⟨[], [(31, v240.length)]⟩) (fun _ => rfl) ?_ ?_)
  refine .block (.guard fun qg281 => Mir.range (fun (i288 : Nat) (v289 : (List ApiBlock) × Int) => (U :: .d (.int .i64 a1) :: U :: U :: U :: .own 0 (List.map encApiBlock v289.1) :: .d (.int .i64 v289.2) :: U :: U :: U :: U :: U :: .d (.list (List.map encApiBlock a0)) :: .d (.int .i64 (a0.length : Int)) :: .d (.int .i64 (i288 : Int)) :: us 31)) (fun i288 v289 => ⟨[], [(31, v289.1.length)]⟩) qg281 (fun _ _ => rfl) (by simp only [seval, SF, ENMB, (nr rfl : ((0 : Nat) : Int) = 0)]) (by simp only [seval, SF, ENMB, (nr rfl : ((0 : Nat) : Int) = 0)]) ?_ ?_)
  intro i288 e290 v289 qr279
  refine .seqK (.region fun e h => ?_)
  simp only [seval, SE, qr279, ENMB]
  refine mU e ?_ h
  refine .seqK (.condT rfl (.skip (Mir.toK (.seqK (.block (.seqK (.region fun e h => ?_)))))))
  simp only [seval, SE, und_39, sz_31, qr279, Int.toNat_natCast, ag_31, zero_31, ENMB]
  refine mU e ?_ h
  refine .seqK (.seqK (.bind fun y297 hy292 => .region fun e h => ?_))
  simp only [seval, SE, ag_31, sz_31, ENMB]
  refine SpecS.by (bk_Find_spec hy292) (by simp only [seval, SF, ENMB]) ?_
  simp only [seval, SE, ENMB]
  refine mU e ?_ h
  refine .seqK (Mir.joinO (fun v299 : Bool => (U :: .d (.int .i64 a1) :: U :: U :: U :: .own 0 (List.map encApiBlock v289.1) :: .d (.int .i64 v289.2) :: U :: .ptr 0 0 :: U :: U :: U :: .d (.list (List.map encApiBlock a0)) :: .d (.int .i64 (a0.length : Int)) :: .d (.int .i64 (i288 : Int)) :: U :: U :: U :: U :: U :: U :: U :: U :: U :: U :: U :: U :: U :: U :: .d (.bool v299) :: us 16)) (fun v299 => ⟨[[.d (.bool e290.Skip), .d (.list (List.map encApiWord e290.Words)), .d (.str e290.Comment)]], [(31, v289.1.length)]⟩) (fun _ => rfl) ?_ ?_)
  refine .ite (fun hb293 => ?_) (fun hb293 => ?_)
  refine .region fun e h => ?_
  simp only [seval, SE, ENMB, hb293]
  cases h
  simp only [seval, SF, ENMB, hb293]
  refine .bind fun y298 hy294 => .region fun e h => ?_
  simp only [seval, SE, ag_31, sz_31, ENMB, hb293]
  refine SpecS.by (po_returns_spec hy294) (by simp only [seval, SF, ENMB, hb293]) ?_
  simp only [seval, SE, ENMB, hb293]
  cases h
  simp only [seval, SF, ENMB, hb293]
  intro v299
  refine Mir.toK (Mir.joinO (fun v301 : Int × (List ApiWord) => (U :: .d (.int .i64 a1) :: U :: U :: U :: .own 0 (List.map encApiBlock v289.1) :: .d (.int .i64 v301.1) :: U :: .ptr 0 0 :: U :: U :: U :: .d (.list (List.map encApiBlock a0)) :: .d (.int .i64 (a0.length : Int)) :: .d (.int .i64 (i288 : Int)) :: us 31)) (fun v301 => ⟨[[.d (.bool e290.Skip), .d (.list (List.map encApiWord v301.2)), .d (.str e290.Comment)]], [(31, v289.1.length)]⟩) (fun _ => rfl) ?_ ?_)
  refine .cond rfl (fun hb298 => ?_) (fun hb298 => ?_)
  refine .seqK (.bind fun y302 hy299 => .guard fun q300 => Mir.regionA 0 [] (U :: .d (.int .i64 a1) :: U :: U :: U :: .own 0 (List.map encApiBlock v289.1) :: .d (.int .i64 v289.2) :: U :: .ptr 0 0 :: U :: U :: U :: .d (.list (List.map encApiBlock a0)) :: .d (.int .i64 (a0.length : Int)) :: .d (.int .i64 (i288 : Int)) :: U :: U :: U :: U :: U :: U :: U :: U :: U :: U :: U :: U :: U :: U :: .d (.bool v299) :: .d (.int .i64 v289.2) :: .agg [.d (.int .u8 y302.Letter), .d (.int .i64 y302.Value)] :: .own 1 (List.map encApiWord [y302]) :: .ptr 0 1 :: .d (.list (List.map encApiWord e290.Words)) :: .own 1 (List.map encApiWord ([y302] ++ e290.Words)) :: .ptr 0 1 :: us 9) ⟨[[.d (.bool e290.Skip), .own 1 (List.map encApiWord ([y302] ++ e290.Words)), .d (.str e290.Comment)]], [(31, v289.1.length), (77, 1 + e290.Words.length)]⟩ (by kernel_rfl) (fun e h => ?_) (fun e h => ?_))
  simp only [seval, SE, w_none, w_eq, SB, ENMB]
  refine regA.two (j := 0) (k := 3) (by kernel_rfl) rfl rfl ?_ ?_
  refine regW.of ?_
  simp only [seval, SE, w_none, w_eq, ENMB]
  refine regA.two (j := 1) (k := 3) (by kernel_rfl) rfl rfl ?_ ?_
  refine regW.of ?_
  simp only [seval, SE, w_none, w_eq, ENMB]
  refine SpecS.by (po_whole_spec hy299) (by simp only [seval, SF, ENMB]) ?_
  simp only [seval, SE, w_none, w_eq, ENMB]
  refine regA.two (j := 2) (k := 3) (by kernel_rfl) rfl rfl ?_ ?_
  refine regW.alt 0 rfl ?_
  simp only [seval, SE, w_none, w_eq, ENMB]
  refine alt_litOwn (es := List.map encApiWord [y302]) app_29 (by simp only [seval, SE, und_29, sz_77, zero_77, (nr rfl : okLen 2 = true), ENMB]) (by decide) (regW.of ?_)
  simp only [seval, SE, w_none, w_eq, und_29, sz_77, zero_77, (nr rfl : okLen 2 = true), ENMB]
  refine regA.one (j := 3) (by kernel_rfl) rfl (regW.of ?_)
  simp only [seval, SE, w_none, w_eq, fld_31_1, sz_29, ENMB]
  refine regA.one (j := 4) (by kernel_rfl) rfl (regW.of ?_)
  simp only [seval, SE, w_none, w_eq, ag_29, sz_29, ENMB]
  refine regA.draw 5 [] (by kernel_rfl) ?_
  simp only [seval, SE, w_none, w_eq, SB, app_29, al_ApiWord, q300, fld_31_1, sz_29, ENMB]
  exact ⟨rfl, rfl⟩
  refine regW.of ?_
  simp only [seval, SE, w_none, w_eq, fld_31_1, sz_29, ENMB]
  refine regA.two (j := 2) (k := 4) (by kernel_rfl) rfl rfl ?_ ?_
  refine regW.alt 0 rfl ?_
  simp only [seval, SE, w_none, w_eq, ENMB]
  refine alt_litOwn (es := List.map encApiWord [y302]) app_29 (by simp only [seval, SE, und_29, sz_77, zero_77, (nr rfl : okLen 2 = true), ENMB]) (by decide) (regW.of ?_)
  simp only [seval, SE, w_none, w_eq, und_29, sz_77, zero_77, (nr rfl : okLen 2 = true), ENMB]
  refine regA.one (j := 4) (by kernel_rfl) rfl (regW.of ?_)
  simp only [seval, SE, w_none, w_eq, ag_29, sz_29, ENMB]
  refine regA.draw 5 [] (by kernel_rfl) ?_
  simp only [seval, SE, w_none, w_eq, SB, app_29, al_ApiWord, q300, fld_31_1, sz_29, ENMB]
  exact ⟨rfl, rfl⟩
  refine regW.of ?_
  simp only [seval, SE, w_none, w_eq, ag_29, sz_29, ENMB]
  refine regA.one (j := 2) (by kernel_rfl) rfl (regW.alt 0 rfl ?_)
  simp only [seval, SE, w_none, w_eq, ENMB]
  refine alt_litOwn (es := List.map encApiWord [y302]) app_29 (by simp only [seval, SE, und_29, sz_77, zero_77, (nr rfl : okLen 2 = true), ENMB]) (by decide) (regW.of ?_)
  simp only [seval, SE, w_none, w_eq, und_29, sz_77, zero_77, (nr rfl : okLen 2 = true), ENMB]
  refine regA.draw 5 [] (by kernel_rfl) ?_
  simp only [seval, SE, w_none, w_eq, SB, app_29, al_ApiWord, q300, fld_31_1, sz_29, ENMB]
  exact ⟨rfl, rfl⟩
  refine regW.of ?_
  simp only [seval, SE, w_none, w_eq, fld_31_1, sz_29, ENMB]
  refine regA.two (j := 1) (k := 4) (by kernel_rfl) rfl rfl ?_ ?_
  refine regW.of ?_
  simp only [seval, SE, w_none, w_eq, ENMB]
  refine SpecS.by (po_whole_spec hy299) (by simp only [seval, SF, ENMB]) ?_
  simp only [seval, SE, w_none, w_eq, ENMB]
  refine regA.two (j := 2) (k := 4) (by kernel_rfl) rfl rfl ?_ ?_
  refine regW.alt 0 rfl ?_
  simp only [seval, SE, w_none, w_eq, ENMB]
  refine alt_litOwn (es := List.map encApiWord [y302]) app_29 (by simp only [seval, SE, und_29, sz_77, zero_77, (nr rfl : okLen 2 = true), ENMB]) (by decide) (regW.of ?_)
  simp only [seval, SE, w_none, w_eq, und_29, sz_77, zero_77, (nr rfl : okLen 2 = true), ENMB]
  refine regA.one (j := 4) (by kernel_rfl) rfl (regW.of ?_)
  simp only [seval, SE, w_none, w_eq, ag_29, sz_29, ENMB]
  refine regA.draw 5 [] (by kernel_rfl) ?_
  simp only [seval, SE, w_none, w_eq, SB, app_29, al_ApiWord, q300, fld_31_1, sz_29, ENMB]
  exact ⟨rfl, rfl⟩
  refine regW.of ?_
  simp only [seval, SE, w_none, w_eq, ag_29, sz_29, ENMB]
  refine regA.one (j := 2) (by kernel_rfl) rfl (regW.alt 0 rfl ?_)
  simp only [seval, SE, w_none, w_eq, ENMB]
  refine alt_litOwn (es := List.map encApiWord [y302]) app_29 (by simp only [seval, SE, und_29, sz_77, zero_77, (nr rfl : okLen 2 = true), ENMB]) (by decide) (regW.of ?_)
  simp only [seval, SE, w_none, w_eq, und_29, sz_77, zero_77, (nr rfl : okLen 2 = true), ENMB]
  refine regA.draw 5 [] (by kernel_rfl) ?_
  simp only [seval, SE, w_none, w_eq, SB, app_29, al_ApiWord, q300, fld_31_1, sz_29, ENMB]
  exact ⟨rfl, rfl⟩
  refine regW.of ?_
  simp only [seval, SE, w_none, w_eq, ag_29, sz_29, ENMB]
  refine regA.one (j := 1) (by kernel_rfl) rfl (regW.of ?_)
  simp only [seval, SE, w_none, w_eq, ENMB]
  refine SpecS.by (po_whole_spec hy299) (by simp only [seval, SF, ENMB]) ?_
  simp only [seval, SE, w_none, w_eq, ENMB]
  refine regA.one (j := 2) (by kernel_rfl) rfl (regW.alt 0 rfl ?_)
  simp only [seval, SE, w_none, w_eq, ENMB]
  refine alt_litOwn (es := List.map encApiWord [y302]) app_29 (by simp only [seval, SE, und_29, sz_77, zero_77, (nr rfl : okLen 2 = true), ENMB]) (by decide) (regW.of ?_)
  simp only [seval, SE, w_none, w_eq, und_29, sz_77, zero_77, (nr rfl : okLen 2 = true), ENMB]
  refine regA.draw 5 [] (by kernel_rfl) ?_
  simp only [seval, SE, w_none, w_eq, SB, app_29, al_ApiWord, q300, fld_31_1, sz_29, ENMB]
  exact ⟨rfl, rfl⟩
  refine regW.of ?_
  simp only [seval, SE, w_none, w_eq, fld_31_1, sz_29, ENMB]
  refine regA.two (j := 0) (k := 4) (by kernel_rfl) rfl rfl ?_ ?_
  refine regW.of ?_
  simp only [seval, SE, w_none, w_eq, ENMB]
  refine regA.two (j := 1) (k := 4) (by kernel_rfl) rfl rfl ?_ ?_
  refine regW.of ?_
  simp only [seval, SE, w_none, w_eq, ENMB]
  refine SpecS.by (po_whole_spec hy299) (by simp only [seval, SF, ENMB]) ?_
  simp only [seval, SE, w_none, w_eq, ENMB]
  refine regA.two (j := 2) (k := 4) (by kernel_rfl) rfl rfl ?_ ?_
  refine regW.alt 0 rfl ?_
  simp only [seval, SE, w_none, w_eq, ENMB]
  refine alt_litOwn (es := List.map encApiWord [y302]) app_29 (by simp only [seval, SE, und_29, sz_77, zero_77, (nr rfl : okLen 2 = true), ENMB]) (by decide) (regW.of ?_)
  simp only [seval, SE, w_none, w_eq, und_29, sz_77, zero_77, (nr rfl : okLen 2 = true), ENMB]
  refine regA.one (j := 4) (by kernel_rfl) rfl (regW.of ?_)
  simp only [seval, SE, w_none, w_eq, ag_29, sz_29, ENMB]
  refine regA.draw 5 [] (by kernel_rfl) ?_
  simp only [seval, SE, w_none, w_eq, SB, app_29, al_ApiWord, q300, fld_31_1, sz_29, ENMB]
  exact ⟨rfl, rfl⟩
  refine regW.of ?_
  simp only [seval, SE, w_none, w_eq, ag_29, sz_29, ENMB]
  refine regA.one (j := 2) (by kernel_rfl) rfl (regW.alt 0 rfl ?_)
  simp only [seval, SE, w_none, w_eq, ENMB]
  refine alt_litOwn (es := List.map encApiWord [y302]) app_29 (by simp only [seval, SE, und_29, sz_77, zero_77, (nr rfl : okLen 2 = true), ENMB]) (by decide) (regW.of ?_)
  simp only [seval, SE, w_none, w_eq, und_29, sz_77, zero_77, (nr rfl : okLen 2 = true), ENMB]
  refine regA.draw 5 [] (by kernel_rfl) ?_
  simp only [seval, SE, w_none, w_eq, SB, app_29, al_ApiWord, q300, fld_31_1, sz_29, ENMB]
  exact ⟨rfl, rfl⟩
  refine regW.of ?_
  simp only [seval, SE, w_none, w_eq, ag_29, sz_29, ENMB]
  refine regA.one (j := 1) (by kernel_rfl) rfl (regW.of ?_)
  simp only [seval, SE, w_none, w_eq, ENMB]
  refine SpecS.by (po_whole_spec hy299) (by simp only [seval, SF, ENMB]) ?_
  simp only [seval, SE, w_none, w_eq, ENMB]
  refine regA.one (j := 2) (by kernel_rfl) rfl (regW.alt 0 rfl ?_)
  simp only [seval, SE, w_none, w_eq, ENMB]
  refine alt_litOwn (es := List.map encApiWord [y302]) app_29 (by simp only [seval, SE, und_29, sz_77, zero_77, (nr rfl : okLen 2 = true), ENMB]) (by decide) (regW.of ?_)
  simp only [seval, SE, w_none, w_eq, und_29, sz_77, zero_77, (nr rfl : okLen 2 = true), ENMB]
  refine regA.draw 5 [] (by kernel_rfl) ?_
  simp only [seval, SE, w_none, w_eq, SB, app_29, al_ApiWord, q300, fld_31_1, sz_29, ENMB]
  exact ⟨rfl, rfl⟩
  refine regW.of ?_
  simp only [seval, SE, w_none, w_eq, ag_29, sz_29, ENMB]
  refine regA.one (j := 0) (by kernel_rfl) rfl (regW.of ?_)
  simp only [seval, SE, w_none, w_eq, ENMB]
  refine regA.one (j := 1) (by kernel_rfl) rfl (regW.of ?_)
  simp only [seval, SE, w_none, w_eq, ENMB]
  refine SpecS.by (po_whole_spec hy299) (by simp only [seval, SF, ENMB]) ?_
  simp only [seval, SE, w_none, w_eq, ENMB]
  refine regA.one (j := 2) (by kernel_rfl) rfl (regW.alt 0 rfl ?_)
  simp only [seval, SE, w_none, w_eq, ENMB]
  refine alt_litOwn (es := List.map encApiWord [y302]) app_29 (by simp only [seval, SE, und_29, sz_77, zero_77, (nr rfl : okLen 2 = true), ENMB]) (by decide) (regW.of ?_)
  simp only [seval, SE, w_none, w_eq, und_29, sz_77, zero_77, (nr rfl : okLen 2 = true), ENMB]
  refine regA.draw 5 [] (by kernel_rfl) ?_
  simp only [seval, SE, w_none, w_eq, SB, app_29, al_ApiWord, q300, fld_31_1, sz_29, ENMB]
  exact ⟨rfl, rfl⟩
  refine mU e ?_ h
  refine .region fun e h => ?_
  simp only [seval, SE, ENMB]
  cases h
  simp only [seval, SF, ENMB, Tryz.results44]
  refine .skip fun e h => ?_
  cases h
  simp only [seval, SF, ENMB, Tryz.results44]
  intro v301
  refine Mir.toK (.guard fun q301 => .region fun e h => ?_)
  simp only [seval, SE, ag_31, sz_31, und_39, zero_31, (nr rfl : okLen 3 = true), app_39, al_ApiBlock, q301, ENMB]
  refine mU e ?_ h
  refine .region fun e h => ?_
  simp only [seval, SE, ENMB]
  cases h
  simp only [seval, SF, ENMB, Tryz.results44, qr279]
  intro v289 qd280
  refine .seqK (.region fun e h => ?_)
  simp only [seval, SE, qd280, ENMB]
  refine mU e ?_ h
  refine .seqK (.condF rfl (.exit fun e h => ?_))
  cases h
  simp only [seval, SF, ENMB, Tryz.results44]
  intro v240
  refine Mir.toK (.seqK (.region fun e h => ?_))
  simp only [seval, SE, ENMB]
  refine mU e ?_ h
  refine .ret fun e h => ?_
  cases h
  simp only [seval, SF, ENMB, Tryz.results44]

def po_Blocks (a0 : (List ApiStage)) (a1 : ApiPos) (a2 : PostOptions) : Option ((List ApiBlock) × Int) :=
  bindO (po_Valid a2) fun (y101 : Int) =>
  if (y101 != 0) = true then
    some ([], y101)
  else
    bindO (po_plain a0 a1 a2) fun (y102 : (List ApiBlock) × Int) =>
    if (y102.2 != 0) = true then
      some ([], y102.2)
    else
      bindX (if a2.Compress = true then
            bindO (md_New ) fun (y106 : ModalState) =>
            bindO (md_Compress y106 y102.1) fun (y107 : (List ApiBlock) × Int) =>
            if (y107.2 != 0) = true then
              some (.ret ([], y107.2))
            else
              some (.go y107.1)
          else
            some (.go y102.1)) fun (v105 : (List ApiBlock)) =>
      bindX (if (a2.Fold != 0) = true then
            bindO (sp_Fold v105 1000 a2.Fold) fun (y111 : SubprogramProgram × Int) =>
            if (y111.2 != 0) = true then
              some (.ret ([], y111.2))
            else
              bindO (sp_Join y111.1) fun (y112 : (List ApiBlock)) =>
              some (.go y112)
          else
            some (.go v105)) fun (v110 : (List ApiBlock)) =>
      if (decide ((v110.length : Int) > 20000)) = true then
        some ([], 3)
      else
        bindO (if (a2.Numbers != 0) = true then
              bindO (po_numbered v110 a2.Numbers) fun (y115 : (List ApiBlock)) =>
              some y115
            else
              some v110) fun (v114 : (List ApiBlock)) =>
        some (v114, 0)
set_option maxHeartbeats 8000000 in
theorem po_Blocks_spec {a0 : (List ApiStage)} {a1 : ApiPos} {a2 : PostOptions} {y : (List ApiBlock) × Int} (h : po_Blocks a0 a1 a2 = some y) : Spec gP 19 [.d (.list (List.map encApiStage a0)), .agg [.d (.int .i64 a1.X), .d (.int .i64 a1.Y), .d (.int .i64 a1.Z)], .agg [.d (.int .i64 a2.Work), .d (.bool a2.Compress), .d (.int .i64 a2.Numbers), .d (.int .i64 a2.Fold)]] (.tuple [.d (.list (List.map encApiBlock y.1)), .d (.int .i64 y.2)]) := by
  refine spec_mir Tryz.func19 rfl (by kernel_rfl) (by kernel_rfl) (fun y : (List ApiBlock) × Int => .tuple [.d (.list (List.map encApiBlock y.1)), .d (.int .i64 y.2)]) ?_ h
  unfold po_Blocks
  simp only [List.replicate, List.length, nS, nA, Tryz.ntmps19, SV]
  refine .seqK (.region fun e h => ?_)
  simp only [seval, SE, ENMB]
  refine mU e ?_ h
  refine .seqK (.seqK (.bind fun y101 hy1 => .region fun e h => ?_))
  simp only [seval, SE, ag_44, sz_44, ENMB]
  refine SpecS.by (po_Valid_spec hy1) (by simp only [seval, SF, ENMB]) ?_
  simp only [seval, SE, ENMB]
  refine mU e ?_ h
  refine .seqK (.region fun e h => ?_)
  simp only [seval, SE, ENMB]
  refine mU e ?_ h
  refine .cond rfl (fun hb3 => ?_) (fun hb3 => ?_)
  refine .seqK (.region fun e h => ?_)
  simp only [seval, SE, ENMB]
  refine mU e ?_ h
  refine .ret fun e h => ?_
  cases h
  simp only [seval, SF, ENMB, Tryz.results19]
  refine .skip (Mir.toK (.seqK (.bind fun y102 hy4 => .region fun e h => ?_)))
  simp only [seval, SE, ag_23, sz_23, ag_44, sz_44, ENMB]
  refine SpecS.by (po_plain_spec hy4) (by simp only [seval, SF, ENMB]) ?_
  simp only [seval, SE, ENMB]
  refine mU e ?_ h
  refine .seqK (.seqK (.region fun e h => ?_))
  simp only [seval, SE, ENMB]
  refine mU e ?_ h
  refine .cond rfl (fun hb6 => ?_) (fun hb6 => ?_)
  refine .seqK (.region fun e h => ?_)
  simp only [seval, SE, ENMB]
  refine mU e ?_ h
  refine .ret fun e h => ?_
  cases h
  simp only [seval, SF, ENMB, Tryz.results19]
  refine .skip (Mir.toK (.seqK (.seqK (.region fun e h => ?_))))
  simp only [seval, SE, fld_44_1, sz_4, ag_4, ENMB]
  refine mU e ?_ h
  refine Mir.join (fun v105 : (List ApiBlock) => (U :: U :: U :: U :: U :: .ptr 1 0 :: U :: U :: U :: .d (.list (List.map encApiBlock v105)) :: us 55)) (fun v105 => ⟨[[.d (.int .i64 a1.X), .d (.int .i64 a1.Y), .d (.int .i64 a1.Z)], [.d (.int .i64 a2.Work), .d (.bool a2.Compress), .d (.int .i64 a2.Numbers), .d (.int .i64 a2.Fold)]], []⟩) (fun _ => rfl) ?_ ?_
  refine .cond rfl (fun hb11 => ?_) (fun hb11 => ?_)
  refine .seqK (.bind fun y106 hy12 => .bind fun y107 hy13 => .region fun e h => ?_)
  simp only [seval, SE, ENMB]
  refine SpecS.by (md_New_spec hy12) (rfl) ?_
  simp only [seval, SE, ENMB]
  refine SpecS.by (md_Compress_spec hy13) (by simp only [seval, SF, ENMB]) ?_
  simp only [seval, SE, ENMB]
  refine mU e ?_ h
  refine .seqK (.region fun e h => ?_)
  simp only [seval, SE, ENMB]
  refine mU e ?_ h
  refine .cond rfl (fun hb14 => ?_) (fun hb14 => ?_)
  refine .seqK (.region fun e h => ?_)
  simp only [seval, SE, ENMB]
  refine mU e ?_ h
  refine .ret fun e h => ?_
  cases h
  simp only [seval, SF, ENMB, Tryz.results19]
  refine .skip fun e h => ?_
  cases h
  simp only [seval, SF, ENMB, Tryz.results19]
  refine .skip fun e h => ?_
  cases h
  simp only [seval, SF, ENMB, Tryz.results19]
  intro v105
  refine Mir.toK (.seqK (.seqK (.region fun e h => ?_)))
  simp only [seval, SE, fld_44_3, sz_3, ag_3, ENMB]
  refine mU e ?_ h
  refine Mir.join (fun v110 : (List ApiBlock) => (U :: U :: U :: U :: U :: .ptr 1 0 :: U :: U :: U :: .d (.list (List.map encApiBlock v110)) :: us 55)) (fun v110 => ⟨[[.d (.int .i64 a1.X), .d (.int .i64 a1.Y), .d (.int .i64 a1.Z)], [.d (.int .i64 a2.Work), .d (.bool a2.Compress), .d (.int .i64 a2.Numbers), .d (.int .i64 a2.Fold)]], []⟩) (fun _ => rfl) ?_ ?_
  refine .cond rfl (fun hb20 => ?_) (fun hb20 => ?_)
  refine .seqK (.bind fun y111 hy21 => .region fun e h => ?_)
  simp only [seval, SE, fld_44_3, sz_3, ag_3, ENMB]
  refine SpecS.by (sp_Fold_spec hy21) (by simp only [seval, SF, ENMB]) ?_
  simp only [seval, SE, zero_63, sz_63, ENMB]
  refine mU e ?_ h
  refine .seqK (.seqK (.region fun e h => ?_))
  simp only [seval, SE, ENMB]
  refine mU e ?_ h
  refine .cond rfl (fun hb23 => ?_) (fun hb23 => ?_)
  refine .seqK (.region fun e h => ?_)
  simp only [seval, SE, ENMB]
  refine mU e ?_ h
  refine .ret fun e h => ?_
  cases h
  simp only [seval, SF, ENMB, Tryz.results19]
  refine .skip (Mir.toK (.bind fun y112 hy24 => .region fun e h => ?_))
  simp only [seval, SE, ag_63, sz_63, ENMB]
  refine SpecS.by (sp_Join_spec hy24) (by simp only [seval, SF, ENMB]) ?_
  simp only [seval, SE, ENMB]
  cases h
  simp only [seval, SF, ENMB, Tryz.results19]
  refine .skip fun e h => ?_
  cases h
  simp only [seval, SF, ENMB, Tryz.results19]
  intro v110
  refine Mir.toK (.seqK (.seqK (.region fun e h => ?_)))
  simp only [seval, SE, und_39, ENMB]
  refine mU e ?_ h
  refine .cond rfl (fun hb26 => ?_) (fun hb26 => ?_)
  refine .seqK (.region fun e h => ?_)
  simp only [seval, SE, ENMB]
  refine mU e ?_ h
  refine .ret fun e h => ?_
  cases h
  simp only [seval, SF, ENMB, Tryz.results19]
  refine .skip (Mir.toK (.seqK (.seqK (.region fun e h => ?_))))
  simp only [seval, SE, fld_44_2, sz_2, ag_2, ENMB]
  refine mU e ?_ h
  refine Mir.joinO (fun v114 : (List ApiBlock) => (U :: U :: U :: U :: U :: U :: U :: U :: U :: .d (.list (List.map encApiBlock v114)) :: us 55)) (fun v114 => ⟨[[.d (.int .i64 a1.X), .d (.int .i64 a1.Y), .d (.int .i64 a1.Z)], [.d (.int .i64 a2.Work), .d (.bool a2.Compress), .d (.int .i64 a2.Numbers), .d (.int .i64 a2.Fold)]], []⟩) (fun _ => rfl) ?_ ?_
  refine .cond rfl (fun hb29 => ?_) (fun hb29 => ?_)
  refine .bind fun y115 hy30 => .region fun e h => ?_
  simp only [seval, SE, fld_44_2, sz_2, ag_2, ENMB]
  refine SpecS.by (po_numbered_spec hy30) (by simp only [seval, SF, ENMB]) ?_
  simp only [seval, SE, ENMB]
  cases h
  simp only [seval, SF, ENMB, Tryz.results19]
  refine .skip fun e h => ?_
  cases h
  simp only [seval, SF, ENMB, Tryz.results19]
  intro v114
  refine Mir.toK (.seqK (.region fun e h => ?_))
  simp only [seval, SE, ENMB]
  refine mU e ?_ h
  refine .ret fun e h => ?_
  cases h
  simp only [seval, SF, ENMB, Tryz.results19]

def bk_printable (a0 : Int) : Option Bool :=
  some ((decide (a0 ≥ 32)) && ((decide (a0 ≤ 126)) && ((a0 != 40) && (a0 != 41))))
theorem bk_printable_spec {a0 : Int} {y : Bool} (h : bk_printable a0 = some y) : Spec gP 152 [.d (.int .u8 a0)] (.d (.bool y)) := by
  refine spec_mir Tryz.func152 rfl (by kernel_rfl) (by kernel_rfl) (fun y : Bool => .d (.bool y)) ?_ h
  unfold bk_printable
  simp only [List.replicate, List.length, nS, nA, Tryz.ntmps152, SV]
  refine .seqK (.region fun e h => ?_)
  simp only [seval, SE]
  refine mU e ?_ h
  refine .seqK (.joinV (U :: U :: .d (.bool ((decide (a0 ≥ 32)) && ((decide (a0 ≤ 126)) && ((a0 != 40) && (a0 != 41))))) :: us 14) ⟨[], []⟩ rfl ?_ ?_)
  refine SWs.region ?_
  rcases Bool.eq_false_or_eq_true (decide (a0 ≥ 32)) with hb1 | hb1
  rcases Bool.eq_false_or_eq_true (decide (a0 ≤ 126)) with hb2 | hb2
  rcases Bool.eq_false_or_eq_true (a0 != 40) with hb3 | hb3
  simp only [seval, SE, SL, PB, hb1, hb2, hb3]
  simp only [seval, SE, SL, PB, hb1, hb2, hb3]
  simp only [seval, SE, SL, PB, hb1, hb2]
  simp only [seval, SE, SL, PB, hb1]
  refine Mir.toK (.ret fun e h => ?_)
  cases h
  simp only [seval, SF, Tryz.results152]

def bk_Valid (a0 : ApiBlock) : Option Int :=
  if ((decide ((a0.Words.length : Int) > 16)) || (decide ((a0.Comment.length : Int) > 100))) = true then
    some 1
  else
    bindX (guardO (okIdx a0.Words) (
        rangeX (fun (i127 : Nat) (e129 : ApiWord) (v128 : Unit) =>
          if ((decide (e129.Letter < 65)) || ((decide (e129.Letter > 90)) || ((decide (e129.Value > 1000000000000)) || (decide (e129.Value < (-1000000000000)))))) = true then
            some (.ret (.ret 1))
          else
            some (.go ())) (fun (v128 : Unit) => some (.go ())) a0.Words 0 ())) fun (v115 : Unit) =>
    bindX (guardO (okIdx (bytesI a0.Comment)) (
        rangeX (fun (i170 : Nat) (e172 : Int) (v171 : Unit) =>
          bindO (bk_printable e172) fun (y174 : Bool) =>
          if (!y174) = true then
            some (.ret (.ret 1))
          else
            some (.go ())) (fun (v171 : Unit) => some (.go ())) (bytesI a0.Comment) 0 ())) fun (v152 : Unit) =>
    some 0
theorem bk_Valid_spec {a0 : ApiBlock} {y : Int} (h : bk_Valid a0 = some y) : Spec gP 134 [.agg [.d (.bool a0.Skip), .d (.list (List.map encApiWord a0.Words)), .d (.str a0.Comment)]] (.d (.int .i64 y)) := by
  refine spec_mir Tryz.func134 rfl (by kernel_rfl) (by kernel_rfl) (fun y : Int => .d (.int .i64 y)) ?_ h
  unfold bk_Valid
  simp only [List.replicate, List.length, nS, nA, Tryz.ntmps134, SV]
  refine .seqK (.region fun e h => ?_)
  simp only [seval, SE, ENMB, eInt]
  refine mU e ?_ h
  refine .seqK (.seqK (.joinV (U :: .ptr 0 0 :: U :: U :: U :: U :: U :: U :: U :: U :: U :: U :: U :: U :: U :: U :: .d (.bool ((decide ((a0.Words.length : Int) > 16)) || (decide ((a0.Comment.length : Int) > 100)))) :: us 38) ⟨[[.d (.bool a0.Skip), .d (.list (List.map encApiWord a0.Words)), .d (.str a0.Comment)]], []⟩ rfl ?_ ?_))
  refine SWs.region ?_
  rcases Bool.eq_false_or_eq_true (decide ((a0.Words.length : Int) > 16)) with hb1 | hb1
  simp only [seval, SE, SL, PB, fld_31_1, sz_29, ag_29, und_29, hb1, ENMB, eInt]
  simp only [seval, SE, SL, PB, fld_31_1, sz_29, ag_29, und_29, fld_31_2, sz_9, ag_9, und_9, hb1, ENMB, eInt]
  refine Mir.toK (.cond rfl (fun hb3 => ?_) (fun hb3 => ?_))
  refine .seqK (.region fun e h => ?_)
  simp only [seval, SE, ENMB]
  refine mU e ?_ h
  refine .ret fun e h => ?_
  cases h
  simp only [seval, SF, ENMB, Tryz.results134]
  refine .skip (Mir.toK (.seqK (.seqK (.region fun e h => ?_))))
  simp only [seval, SE, fld_31_1, sz_29, ag_29, und_29, ENMB, eInt]
  refine mU e ?_ h
  refine Mir.join (fun v115 : Unit => (U :: .ptr 0 0 :: us 53)) (fun v115 => ⟨[[.d (.bool a0.Skip), .d (.list (List.map encApiWord a0.Words)), .d (.str a0.Comment)]], []⟩) (fun _ => rfl) ?_ ?_
  refine .block (.guard fun qg96 => Mir.range (fun (i127 : Nat) (v128 : Unit) => (U :: .ptr 0 0 :: U :: U :: U :: U :: U :: U :: U :: U :: U :: U :: U :: U :: U :: U :: U :: U :: .d (.list (List.map encApiWord a0.Words)) :: .d (.int .i64 (a0.Words.length : Int)) :: .d (.int .i64 (i127 : Int)) :: us 34)) (fun i127 v128 => ⟨[[.d (.bool a0.Skip), .d (.list (List.map encApiWord a0.Words)), .d (.str a0.Comment)]], []⟩) qg96 (fun _ _ => rfl) (by simp only [seval, SF, ENMB, (nr rfl : ((0 : Nat) : Int) = 0)]) (by simp only [seval, SF, ENMB, (nr rfl : ((0 : Nat) : Int) = 0)]) ?_ ?_)
  intro i127 e129 v128 qr94
  refine .seqK (.region fun e h => ?_)
  simp only [seval, SE, qr94, ENMB]
  refine mU e ?_ h
  refine .seqK (.condT rfl (.skip (Mir.toK (.seqK (.block (.seqK (.region fun e h => ?_)))))))
  simp only [seval, SE, und_29, sz_77, qr94, Int.toNat_natCast, ag_77, zero_77, ENMB]
  refine mU e ?_ h
  refine .seqK (.joinV (U :: .ptr 0 0 :: U :: U :: U :: U :: U :: U :: U :: U :: U :: U :: U :: U :: U :: U :: U :: U :: .d (.list (List.map encApiWord a0.Words)) :: .d (.int .i64 (a0.Words.length : Int)) :: .d (.int .i64 (i127 : Int)) :: U :: U :: U :: U :: U :: U :: U :: U :: U :: U :: U :: U :: U :: U :: U :: U :: U :: U :: U :: U :: .d (.bool ((decide (e129.Letter < 65)) || ((decide (e129.Letter > 90)) || ((decide (e129.Value > 1000000000000)) || (decide (e129.Value < (-1000000000000))))))) :: us 13) ⟨[[.d (.bool a0.Skip), .d (.list (List.map encApiWord a0.Words)), .d (.str a0.Comment)], [.d (.int .u8 e129.Letter), .d (.int .i64 e129.Value)]], []⟩ rfl ?_ ?_)
  refine SWs.region ?_
  rcases Bool.eq_false_or_eq_true (decide (e129.Letter < 65)) with hb101 | hb101
  simp only [seval, SE, SL, PB, fld_77_0, sz_5, ag_5, hb101, ENMB]
  rcases Bool.eq_false_or_eq_true (decide (e129.Letter > 90)) with hb102 | hb102
  simp only [seval, SE, SL, PB, fld_77_0, sz_5, ag_5, hb101, hb102, ENMB]
  rcases Bool.eq_false_or_eq_true (decide (e129.Value > 1000000000000)) with hb103 | hb103
  simp only [seval, SE, SL, PB, fld_77_0, sz_5, ag_5, fld_77_1, sz_2, ag_2, hb101, hb102, hb103, ENMB]
  simp only [seval, SE, SL, PB, fld_77_0, sz_5, ag_5, fld_77_1, sz_2, ag_2, hb101, hb102, hb103, ENMB]
  refine Mir.toK (.cond rfl (fun hb105 => ?_) (fun hb105 => ?_))
  refine .seqK (.region fun e h => ?_)
  simp only [seval, SE, ENMB]
  refine mU e ?_ h
  refine .ret fun e h => ?_
  cases h
  simp only [seval, SF, ENMB, Tryz.results134]
  refine .skip (Mir.toB (Mir.toK (.region fun e h => ?_)))
  simp only [seval, SE, ENMB]
  cases h
  simp only [seval, SF, ENMB, Tryz.results134, qr94]
  intro v128 qd95
  refine .seqK (.region fun e h => ?_)
  simp only [seval, SE, qd95, ENMB]
  refine mU e ?_ h
  refine .seqK (.condF rfl (.exit fun e h => ?_))
  cases h
  simp only [seval, SF, ENMB, Tryz.results134]
  intro v115
  refine Mir.toK (.seqK (.seqK (.region fun e h => ?_)))
  simp only [seval, SE, fld_31_2, sz_9, ag_9, und_9, und_163, und_5, bytes_enc, ENMB, eInt]
  refine mU e ?_ h
  refine Mir.join (fun v152 : Unit => (us 55)) (fun v152 => ⟨[[.d (.bool a0.Skip), .d (.list (List.map encApiWord a0.Words)), .d (.str a0.Comment)]], []⟩) (fun _ => rfl) ?_ ?_
  refine .block (.guard fun qg170 => Mir.range (fun (i170 : Nat) (v171 : Unit) => (U :: U :: U :: U :: U :: U :: U :: U :: U :: U :: U :: U :: U :: U :: U :: U :: U :: U :: U :: U :: U :: U :: U :: U :: U :: U :: U :: U :: U :: U :: U :: U :: U :: U :: U :: U :: U :: U :: U :: U :: U :: U :: U :: U :: U :: .d (.list (List.map (eInt .u8) (bytesI a0.Comment))) :: .d (.int .i64 ((bytesI a0.Comment).length : Int)) :: .d (.int .i64 (i170 : Int)) :: us 7)) (fun i170 v171 => ⟨[[.d (.bool a0.Skip), .d (.list (List.map encApiWord a0.Words)), .d (.str a0.Comment)]], []⟩) qg170 (fun _ _ => rfl) (by simp only [seval, SF, ENMB, eInt, (nr rfl : ((0 : Nat) : Int) = 0)]) (by simp only [seval, SF, ENMB, eInt, (nr rfl : ((0 : Nat) : Int) = 0)]) ?_ ?_)
  intro i170 e172 v171 qr168
  refine .seqK (.region fun e h => ?_)
  simp only [seval, SE, qr168, ENMB, eInt]
  refine mU e ?_ h
  refine .seqK (.condT rfl (.skip (Mir.toK (.seqK (.block (.seqK (.region fun e h => ?_)))))))
  simp only [seval, SE, und_163, sz_5, qr168, Int.toNat_natCast, ag_5, ENMB, eInt]
  refine mU e ?_ h
  refine .seqK (.bind fun y174 hy173 => .region fun e h => ?_)
  simp only [seval, SE, ENMB, eInt]
  refine SpecS.by (bk_printable_spec hy173) (by simp only [seval, SF, ENMB, eInt]) ?_
  simp only [seval, SE, ENMB, eInt]
  refine mU e ?_ h
  refine .cond rfl (fun hb175 => ?_) (fun hb175 => ?_)
  refine .seqK (.region fun e h => ?_)
  simp only [seval, SE, ENMB, eInt]
  refine mU e ?_ h
  refine .ret fun e h => ?_
  cases h
  simp only [seval, SF, ENMB, eInt, Tryz.results134]
  refine .skip (Mir.toB (Mir.toK (.region fun e h => ?_)))
  simp only [seval, SE, ENMB, eInt]
  cases h
  simp only [seval, SF, ENMB, eInt, Tryz.results134, qr168]
  intro v171 qd169
  refine .seqK (.region fun e h => ?_)
  simp only [seval, SE, qd169, ENMB, eInt]
  refine mU e ?_ h
  refine .seqK (.condF rfl (.exit fun e h => ?_))
  cases h
  simp only [seval, SF, ENMB, eInt, Tryz.results134]
  intro v152
  refine Mir.toK (.seqK (.region fun e h => ?_))
  simp only [seval, SE, ENMB, eInt]
  refine mU e ?_ h
  refine .ret fun e h => ?_
  cases h
  simp only [seval, SF, ENMB, eInt, Tryz.results134]

def bk_Text (a0 : Int) : Option (List UInt8) :=
  bindO (if (decide (a0 < 0)) = true then
        some (IntKind.u64.wrap (0 - (IntKind.u64.wrap a0)), [45])
      else
        some (IntKind.u64.wrap a0, [])) fun (v101 : Int × (List UInt8)) =>
  bindO (strconv_FormatUint (IntKind.u64.wrap (Int.tdiv v101.1 1000)) 10) fun (y102 : (List UInt8)) =>
  guardO (okStr v101.2 y102) (
  bindO (if (decide ((Int.tmod v101.1 1000) > 0)) = true then
        bindO (strconv_FormatUint (IntKind.u64.wrap (1000 + (Int.tmod v101.1 1000))) 10) fun (y107 : (List UInt8)) =>
        bindO (cutF y107 1) fun (s108 : (List UInt8)) =>
        bindO (strings_TrimRight s108 [48]) fun (y109 : (List UInt8)) =>
        guardO (okStr [46] y109) (
        guardO (okStr (v101.2 ++ y102) ([46] ++ y109)) (
        some ((v101.2 ++ y102) ++ ([46] ++ y109))))
      else
        some (v101.2 ++ y102)) fun (v106 : (List UInt8)) =>
  some v106)
theorem bk_Text_spec {a0 : Int} {y : (List UInt8)} (h : bk_Text a0 = some y) : Spec gP 135 [.d (.int .i64 a0)] (.d (.str y)) := by
  refine spec_mir Tryz.func135 rfl (by kernel_rfl) (by kernel_rfl) (fun y : (List UInt8) => .d (.str y)) ?_ h
  unfold bk_Text
  simp only [List.replicate, List.length, nS, nA, Tryz.ntmps135, SV]
  refine .seqK (.region fun e h => ?_)
  simp only [seval, SE]
  refine mU e ?_ h
  refine .seqK (.region fun e h => ?_)
  simp only [seval, SE, und_2, und_123]
  refine mU e ?_ h
  refine .seqK (.seqK (.region fun e h => ?_))
  simp only [seval, SE]
  refine mU e ?_ h
  refine Mir.joinO (fun v101 : Int × (List UInt8) => (U :: U :: U :: .d (.int .u64 v101.1) :: .d (.str v101.2) :: us 26)) (fun v101 => ⟨[], []⟩) (fun _ => rfl) ?_ ?_
  refine .cond rfl (fun hb2 => ?_) (fun hb2 => ?_)
  refine .region fun e h => ?_
  simp only [seval, SE]
  cases h
  simp only [seval, SF, Tryz.results135]
  refine .skip fun e h => ?_
  cases h
  simp only [seval, SF, Tryz.results135]
  intro v101
  refine Mir.toK (.seqK (.bind fun y102 hy3 => .guard fun q4 => ?_))
  replace q4 := okStr_ok q4
  refine .region fun e h => ?_
  simp only [seval, SE]
  refine SpecS.by (strconv_FormatUint_spec hy3) (by simp only [seval, SF]) ?_
  simp only [seval, SE, q4]
  refine mU e ?_ h
  refine .seqK (.seqK (.region fun e h => ?_))
  simp only [seval, SE]
  refine mU e ?_ h
  refine .seqK (.region fun e h => ?_)
  simp only [seval, SE]
  refine mU e ?_ h
  refine Mir.joinO (fun v106 : (List UInt8) => (U :: U :: U :: U :: U :: .d (.str v106) :: us 25)) (fun v106 => ⟨[], []⟩) (fun _ => rfl) ?_ ?_
  refine .cond rfl (fun hb11 => ?_) (fun hb11 => ?_)
  refine .bind fun y107 hy12 => .bind fun s108 q13 => ?_
  replace q13 := cutF_ok q13
  simp only [Int.reduceToNat, Int.reduceLT, Nat.sub_zero, dp0] at q13
  refine .bind fun y109 hy14 => .guard fun q15 => ?_
  replace q15 := okStr_ok q15
  try simp only [lm, xNA, xCA, xAN, xLC, xLN, xAC, xAL, nA, Nat.zero_add] at q15
  refine .guard fun q16 => ?_
  replace q16 := okStr_ok q16
  try simp only [lm, xNA, xCA, xAN, xLC, xLN, xAC, xAL, nA, Nat.zero_add] at q16
  refine .region fun e h => ?_
  simp only [seval, SE]
  refine SpecS.by (strconv_FormatUint_spec hy12) (by simp only [seval, SF]) ?_
  simp only [seval, SE, und_9, q13, Nat.le_refl, and_true, true_and, dm, tm]
  refine SpecS.by (strings_TrimRight_spec hy14) (by simp only [seval, SF]) ?_
  simp only [seval, SE, q15, q16]
  cases h
  simp only [seval, SF, Tryz.results135]
  refine .skip fun e h => ?_
  cases h
  simp only [seval, SF, Tryz.results135]
  intro v106
  refine Mir.toK (.seqK (.region fun e h => ?_))
  simp only [seval, SE]
  refine mU e ?_ h
  refine .ret fun e h => ?_
  cases h
  simp only [seval, SF, Tryz.results135]

end Go.Proofs.YtejknolljjpodaaGreatDoor
