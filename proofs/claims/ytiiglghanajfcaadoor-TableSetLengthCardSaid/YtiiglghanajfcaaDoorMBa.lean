/-
  Mirrors of functions, written by wip/mir.py.
-/
import Derived.Test.YtiiglghanajfcaaDoorGf
import Derived.Test.YtiiglghanajfcaaDoorTy
import Derived.Test.YtiiglghanajfcaaDoorBu
import Derived.Test.YtiiglghanajfcaaDoorGz
import Derived.Test.YtiiglghanajfcaaDoorIo
import Derived.Test.YtiiglghanajfcaaDoorLb
namespace Go.Proofs.YtiiglghanajfcaaDoor
open Go.RowKit
open Nat renaming reduceAdd → nA, reduceSub → nS, reduceMul → nM, reduceEqDiff → nE, reduceLeDiff → nL, reduceLT → nT, reduceBEq → nB
open Int renaming reduceLT → iT, reduceToNat → iN, reduceEq → iE
set_option linter.unusedVariables false
set_option linter.unusedSimpArgs false
set_option maxRecDepth 100000

structure TableLength where
  Number : Int
  Length : Int
  deriving DecidableEq
def encTableLength (x : TableLength) : List D := [.int .i64 x.Number, .int .i64 x.Length]
theorem al_TableLength {l : List TableLength} : (List.map encTableLength l).all (fun x => x.length == 2) = true := by simp [List.all_eq_true, encTableLength]
structure ApiPos where
  X : Int
  Y : Int
  Z : Int
  deriving DecidableEq
def encApiPos (x : ApiPos) : List D := [.int .i64 x.X, .int .i64 x.Y, .int .i64 x.Z]
theorem al_ApiPos {l : List ApiPos} : (List.map encApiPos l).all (fun x => x.length == 3) = true := by simp [List.all_eq_true, encApiPos]
structure Arr6ApiPos where
  e0 : ApiPos
  e1 : ApiPos
  e2 : ApiPos
  e3 : ApiPos
  e4 : ApiPos
  e5 : ApiPos
  deriving DecidableEq
def encArr6ApiPos (x : Arr6ApiPos) : List D := [.int .i64 x.e0.X, .int .i64 x.e0.Y, .int .i64 x.e0.Z, .int .i64 x.e1.X, .int .i64 x.e1.Y, .int .i64 x.e1.Z, .int .i64 x.e2.X, .int .i64 x.e2.Y, .int .i64 x.e2.Z, .int .i64 x.e3.X, .int .i64 x.e3.Y, .int .i64 x.e3.Z, .int .i64 x.e4.X, .int .i64 x.e4.Y, .int .i64 x.e4.Z, .int .i64 x.e5.X, .int .i64 x.e5.Y, .int .i64 x.e5.Z]
theorem al_Arr6ApiPos {l : List Arr6ApiPos} : (List.map encArr6ApiPos l).all (fun x => x.length == 18) = true := by simp [List.all_eq_true, encArr6ApiPos]
structure TableTable where
  Work : Arr6ApiPos
  Lengths : (List TableLength)
  deriving DecidableEq
def encTableTable (x : TableTable) : List D := [.int .i64 x.Work.e0.X, .int .i64 x.Work.e0.Y, .int .i64 x.Work.e0.Z, .int .i64 x.Work.e1.X, .int .i64 x.Work.e1.Y, .int .i64 x.Work.e1.Z, .int .i64 x.Work.e2.X, .int .i64 x.Work.e2.Y, .int .i64 x.Work.e2.Z, .int .i64 x.Work.e3.X, .int .i64 x.Work.e3.Y, .int .i64 x.Work.e3.Z, .int .i64 x.Work.e4.X, .int .i64 x.Work.e4.Y, .int .i64 x.Work.e4.Z, .int .i64 x.Work.e5.X, .int .i64 x.Work.e5.Y, .int .i64 x.Work.e5.Z, .list (List.map encTableLength x.Lengths)]
theorem al_TableTable {l : List TableTable} : (List.map encTableTable l).all (fun x => x.length == 19) = true := by simp [List.all_eq_true, encTableTable]
structure R45Length where
  Number : Int
  Length : Int
  deriving DecidableEq
def encR45Length (x : R45Length) : List D := [.int .i64 x.Number, .int .i64 x.Length]
theorem al_R45Length {l : List R45Length} : (List.map encR45Length l).all (fun x => x.length == 2) = true := by simp [List.all_eq_true, encR45Length]
structure R45Table where
  Work : Arr6ApiPos
  Lengths : (List R45Length)
  deriving DecidableEq
def encR45Table (x : R45Table) : List D := [.int .i64 x.Work.e0.X, .int .i64 x.Work.e0.Y, .int .i64 x.Work.e0.Z, .int .i64 x.Work.e1.X, .int .i64 x.Work.e1.Y, .int .i64 x.Work.e1.Z, .int .i64 x.Work.e2.X, .int .i64 x.Work.e2.Y, .int .i64 x.Work.e2.Z, .int .i64 x.Work.e3.X, .int .i64 x.Work.e3.Y, .int .i64 x.Work.e3.Z, .int .i64 x.Work.e4.X, .int .i64 x.Work.e4.Y, .int .i64 x.Work.e4.Z, .int .i64 x.Work.e5.X, .int .i64 x.Work.e5.Y, .int .i64 x.Work.e5.Z, .list (List.map encR45Length x.Lengths)]
theorem al_R45Table {l : List R45Table} : (List.map encR45Table l).all (fun x => x.length == 19) = true := by simp [List.all_eq_true, encR45Table]
theorem ENMB : type_of% (And.intro @encTableLength.eq_1 <| And.intro @encApiPos.eq_1 <| And.intro @encArr6ApiPos.eq_1 <| And.intro @encTableTable.eq_1 <| And.intro @encR45Length.eq_1 <| @encR45Table.eq_1) := And.intro @encTableLength.eq_1 <| And.intro @encApiPos.eq_1 <| And.intro @encArr6ApiPos.eq_1 <| And.intro @encTableTable.eq_1 <| And.intro @encR45Length.eq_1 <| @encR45Table.eq_1
def tb_far (a0 : ApiPos) : Option Bool :=
  some ((decide ((mmI true (mmI true a0.X a0.Y) a0.Z) > 10000000)) || (decide ((mmI false (mmI false a0.X a0.Y) a0.Z) < (-10000000))))
theorem tb_far_spec {a0 : ApiPos} {y : Bool} (h : tb_far a0 = some y) : Spec gP 25 [.agg [.d (.int .i64 a0.X), .d (.int .i64 a0.Y), .d (.int .i64 a0.Z)]] (.d (.bool y)) := by
  refine spec_mir Tryd.func25 rfl (by kernel_rfl) (by kernel_rfl) (fun y : Bool => .d (.bool y)) ?_ h
  unfold tb_far
  simp only [List.replicate, List.length, nS, nA, Tryd.ntmps25, SV]
  refine Mir.seqK (Mir.region fun e h => ?_)
  simp only [↓reduceIte, reduceCtorEq, nA, nS, nM, nE, nL, nT, nB, iT, iN, iE, and_self, SR, SV]
  refine Mir.use (e := e) ?_ h
  refine Mir.seqK (Mir.region fun e h => ?_)
  simp only [↓reduceIte, reduceCtorEq, nA, nS, nM, nE, nL, nT, nB, iT, iN, iE, and_self, SR, SV, fld_23_0, sz_2, ag_2, fld_23_1, fld_23_2]
  refine Mir.use (e := e) ?_ h
  refine Mir.seqK (Mir.region fun e h => ?_)
  simp only [↓reduceIte, reduceCtorEq, nA, nS, nM, nE, nL, nT, nB, iT, iN, iE, and_self, SR, SV, fld_23_0, sz_2, ag_2, fld_23_1, fld_23_2]
  refine Mir.use (e := e) ?_ h
  refine Mir.seqK (Mir.joinV [U, U, .d (.bool ((decide ((mmI true (mmI true a0.X a0.Y) a0.Z) > 10000000)) || (decide ((mmI false (mmI false a0.X a0.Y) a0.Z) < (-10000000))))), U, U, U, U, U, U, U, U, U, U, U, U, U, U, U, U, U, U, U, U, U, U] ⟨[[.d (.int .i64 a0.X), .d (.int .i64 a0.Y), .d (.int .i64 a0.Z)]], []⟩ rfl ?_ ?_)
  ·refine SWs.region ?_
   rcases Bool.eq_false_or_eq_true (decide ((mmI true (mmI true a0.X a0.Y) a0.Z) > 10000000)) with hb1 | hb1
   ·simp only [↓reduceIte, reduceCtorEq, nA, nS, nM, nE, nL, nT, nB, iT, iN, iE, and_self, SR, SV, SL, PB, hb1]
   ·simp only [↓reduceIte, reduceCtorEq, nA, nS, nM, nE, nL, nT, nB, iT, iN, iE, and_self, SR, SV, SL, PB, hb1]
  ·refine Mir.toK (Mir.ret fun e h => ?_)
   cases h
   simp only [↓reduceIte, reduceCtorEq, nA, nE, nL, and_self, and_true, true_and, SL, Tryd.results25]

def tb_entry (a0 : TableLength) : Option Bool :=
  some ((decide (a0.Number ≥ 1)) && ((decide (a0.Number ≤ 999)) && ((decide (a0.Length ≥ 0)) && (decide (a0.Length ≤ 10000000)))))
theorem tb_entry_spec {a0 : TableLength} {y : Bool} (h : tb_entry a0 = some y) : Spec gP 26 [.agg [.d (.int .i64 a0.Number), .d (.int .i64 a0.Length)]] (.d (.bool y)) := by
  refine spec_mir Tryd.func26 rfl (by kernel_rfl) (by kernel_rfl) (fun y : Bool => .d (.bool y)) ?_ h
  unfold tb_entry
  simp only [List.replicate, List.length, nS, nA, Tryd.ntmps26, SV]
  refine Mir.seqK (Mir.region fun e h => ?_)
  simp only [↓reduceIte, reduceCtorEq, nA, nS, nM, nE, nL, nT, nB, iT, iN, iE, and_self, SR, SV]
  refine Mir.use (e := e) ?_ h
  refine Mir.seqK (Mir.joinV [U, U, .d (.bool ((decide (a0.Number ≥ 1)) && ((decide (a0.Number ≤ 999)) && ((decide (a0.Length ≥ 0)) && (decide (a0.Length ≤ 10000000)))))), U, U, U, U, U, U, U, U, U, U, U, U, U, U, U, U, U, U] ⟨[[.d (.int .i64 a0.Number), .d (.int .i64 a0.Length)]], []⟩ rfl ?_ ?_)
  ·refine SWs.region ?_
   rcases Bool.eq_false_or_eq_true (decide (a0.Number ≥ 1)) with hb1 | hb1
   ·rcases Bool.eq_false_or_eq_true (decide (a0.Number ≤ 999)) with hb2 | hb2
    ·rcases Bool.eq_false_or_eq_true (decide (a0.Length ≥ 0)) with hb3 | hb3
     ·simp only [↓reduceIte, reduceCtorEq, nA, nS, nM, nE, nL, nT, nB, iT, iN, iE, and_self, SR, SV, SL, PB, fld_48_0, sz_2, ag_2, fld_48_1, hb1, hb2, hb3]
     ·simp only [↓reduceIte, reduceCtorEq, nA, nS, nM, nE, nL, nT, nB, iT, iN, iE, and_self, SR, SV, SL, PB, fld_48_0, sz_2, ag_2, fld_48_1, hb1, hb2, hb3]
    ·simp only [↓reduceIte, reduceCtorEq, nA, nS, nM, nE, nL, nT, nB, iT, iN, iE, and_self, SR, SV, SL, PB, fld_48_0, sz_2, ag_2, hb1, hb2]
   ·simp only [↓reduceIte, reduceCtorEq, nA, nS, nM, nE, nL, nT, nB, iT, iN, iE, and_self, SR, SV, SL, PB, fld_48_0, sz_2, ag_2, hb1]
  ·refine Mir.toK (Mir.ret fun e h => ?_)
   cases h
   simp only [↓reduceIte, reduceCtorEq, nA, nE, nL, and_self, and_true, true_and, SL, Tryd.results26]

def tb_Valid (a0 : TableTable) : Option Int :=
  bindO (bindO (bindX (bindO (tb_far a0.Work.e0) fun (y168 : Bool) =>
              if y168 = true then
                some (.ret 0)
              else
                bindO (tb_far a0.Work.e1) fun (y170 : Bool) =>
                if y170 = true then
                  some (.ret 1)
                else
                  bindO (tb_far a0.Work.e2) fun (y172 : Bool) =>
                  if y172 = true then
                    some (.ret 2)
                  else
                    bindO (tb_far a0.Work.e3) fun (y174 : Bool) =>
                    if y174 = true then
                      some (.ret 3)
                    else
                      bindO (tb_far a0.Work.e4) fun (y176 : Bool) =>
                      if y176 = true then
                        some (.ret 4)
                      else
                        bindO (tb_far a0.Work.e5) fun (y178 : Bool) =>
                        if y178 = true then
                          some (.ret 5)
                        else
                          some (.go ())) fun (v166 : Unit) =>
          some (-1)) fun (v153 : Int) =>
      some (decide (v153 ≥ 0))) fun (v127 : Bool) =>
  if v127 = true then
    some 1
  else
    bindX (guardO (okIdx a0.Lengths) (
        rangeX (fun (i243 : Nat) (e245 : TableLength) (v244 : Unit) =>
          bindO (bindO (tb_entry e245) fun (y249 : Bool) =>
              if y249 = true then
                if (decide ((i243 : Int) > 0)) = true then
                  bindO (gt a0.Lengths (IntKind.i64.wrap ((i243 : Int) - 1))) fun (e250 : TableLength) =>
                  some (decide (e250.Number ≥ e245.Number))
                else
                  some false
              else
                some true) fun (v251 : Bool) =>
          if v251 = true then
            some (.ret (.ret 1))
          else
            some (.go ())) (fun (v244 : Unit) => some (.go ())) a0.Lengths 0 ())) fun (v215 : Unit) =>
    some 0
set_option maxHeartbeats 8000000 in
theorem tb_Valid_spec {a0 : TableTable} {y : Int} (h : tb_Valid a0 = some y) : Spec gP 9 [.agg [.d (.int .i64 a0.Work.e0.X), .d (.int .i64 a0.Work.e0.Y), .d (.int .i64 a0.Work.e0.Z), .d (.int .i64 a0.Work.e1.X), .d (.int .i64 a0.Work.e1.Y), .d (.int .i64 a0.Work.e1.Z), .d (.int .i64 a0.Work.e2.X), .d (.int .i64 a0.Work.e2.Y), .d (.int .i64 a0.Work.e2.Z), .d (.int .i64 a0.Work.e3.X), .d (.int .i64 a0.Work.e3.Y), .d (.int .i64 a0.Work.e3.Z), .d (.int .i64 a0.Work.e4.X), .d (.int .i64 a0.Work.e4.Y), .d (.int .i64 a0.Work.e4.Z), .d (.int .i64 a0.Work.e5.X), .d (.int .i64 a0.Work.e5.Y), .d (.int .i64 a0.Work.e5.Z), .d (.list (List.map encTableLength a0.Lengths))]] (.d (.int .i64 y)) := by
  refine spec_mir Tryd.func9 rfl (by kernel_rfl) (by kernel_rfl) (fun y : Int => .d (.int .i64 y)) ?_ h
  unfold tb_Valid
  simp only [List.replicate, List.length, nS, nA, Tryd.ntmps9, SV]
  refine Mir.seqK (Mir.region fun e h => ?_)
  simp only [↓reduceIte, reduceCtorEq, nA, nS, nM, nE, nL, nT, nB, iT, iN, iE, and_self, SR, SV, ENMB]
  refine Mir.use (e := e) ?_ h
  refine Mir.seqK (Mir.seqK (Mir.bind fun v127 hv62 => Mir.region fun e h => ?_))
  simp only [↓reduceIte, reduceCtorEq, nA, nS, nM, nE, nL, nT, nB, iT, iN, iE, and_self, SR, SV, fld_33_0, sz_24, und_24, sz_23, ENMB]
  refine SpecS.inl Tryd.func24 rfl (by kernel_rfl) (by kernel_rfl) (fun v127 : Bool => .d (.bool v127)) (fun v127 : Bool => ⟨[[.d (.int .i64 a0.Work.e0.X), .d (.int .i64 a0.Work.e0.Y), .d (.int .i64 a0.Work.e0.Z), .d (.int .i64 a0.Work.e1.X), .d (.int .i64 a0.Work.e1.Y), .d (.int .i64 a0.Work.e1.Z), .d (.int .i64 a0.Work.e2.X), .d (.int .i64 a0.Work.e2.Y), .d (.int .i64 a0.Work.e2.Z), .d (.int .i64 a0.Work.e3.X), .d (.int .i64 a0.Work.e3.Y), .d (.int .i64 a0.Work.e3.Z), .d (.int .i64 a0.Work.e4.X), .d (.int .i64 a0.Work.e4.Y), .d (.int .i64 a0.Work.e4.Z), .d (.int .i64 a0.Work.e5.X), .d (.int .i64 a0.Work.e5.Y), .d (.int .i64 a0.Work.e5.Z), .d (.list (List.map encTableLength a0.Lengths))]], []⟩) hv62 rfl ?_ ?_
  ·simp only [List.replicate, List.length, nS, nA, Tryd.ntmps24, SV]
   refine Mir.seqK (Mir.region fun e h => ?_)
   simp only [↓reduceIte, reduceCtorEq, nA, nS, nM, nE, nL, nT, nB, iT, iN, iE, and_self, SR, SV, ENMB]
   refine Mir.use (e := e) ?_ h
   refine Mir.seqK (Mir.bind fun v153 hv123 => Mir.region fun e h => ?_)
   simp only [↓reduceIte, reduceCtorEq, nA, nS, nM, nE, nL, nT, nB, iT, iN, iE, and_self, SR, SV, ENMB]
   refine SpecS.inl Tryd.func43 rfl (by kernel_rfl) (by kernel_rfl) (fun v153 : Int => .d (.int .i64 v153)) (fun v153 : Int => ⟨[[.d (.int .i64 a0.Work.e0.X), .d (.int .i64 a0.Work.e0.Y), .d (.int .i64 a0.Work.e0.Z), .d (.int .i64 a0.Work.e1.X), .d (.int .i64 a0.Work.e1.Y), .d (.int .i64 a0.Work.e1.Z), .d (.int .i64 a0.Work.e2.X), .d (.int .i64 a0.Work.e2.Y), .d (.int .i64 a0.Work.e2.Z), .d (.int .i64 a0.Work.e3.X), .d (.int .i64 a0.Work.e3.Y), .d (.int .i64 a0.Work.e3.Z), .d (.int .i64 a0.Work.e4.X), .d (.int .i64 a0.Work.e4.Y), .d (.int .i64 a0.Work.e4.Z), .d (.int .i64 a0.Work.e5.X), .d (.int .i64 a0.Work.e5.Y), .d (.int .i64 a0.Work.e5.Z), .d (.list (List.map encTableLength a0.Lengths))]], []⟩) hv123 rfl ?_ ?_
   ·simp only [List.replicate, List.length, nS, nA, Tryd.ntmps43, SV]
    refine Mir.seqK (Mir.region fun e h => ?_)
    simp only [↓reduceIte, reduceCtorEq, nA, nS, nM, nE, nL, nT, nB, iT, iN, iE, and_self, SR, SV, ENMB]
    refine Mir.use (e := e) ?_ h
    refine Mir.seqK (Mir.seqK (Mir.region fun e h => ?_))
    simp only [↓reduceIte, reduceCtorEq, nA, nS, nM, nE, nL, nT, nB, iT, iN, iE, and_self, SR, SV, und_58, (nr rfl : ((6 : Nat) : Int) = 6), ENMB]
    refine Mir.use (e := e) ?_ h
    refine Mir.join (fun v166 : Unit => [U, U, U, U, U, U, U, U, U, U, U, U, U, U, U, U, U, U, U]) (fun v166 : Unit => ⟨[[.d (.int .i64 a0.Work.e0.X), .d (.int .i64 a0.Work.e0.Y), .d (.int .i64 a0.Work.e0.Z), .d (.int .i64 a0.Work.e1.X), .d (.int .i64 a0.Work.e1.Y), .d (.int .i64 a0.Work.e1.Z), .d (.int .i64 a0.Work.e2.X), .d (.int .i64 a0.Work.e2.Y), .d (.int .i64 a0.Work.e2.Z), .d (.int .i64 a0.Work.e3.X), .d (.int .i64 a0.Work.e3.Y), .d (.int .i64 a0.Work.e3.Z), .d (.int .i64 a0.Work.e4.X), .d (.int .i64 a0.Work.e4.Y), .d (.int .i64 a0.Work.e4.Z), .d (.int .i64 a0.Work.e5.X), .d (.int .i64 a0.Work.e5.Y), .d (.int .i64 a0.Work.e5.Z), .d (.list (List.map encTableLength a0.Lengths))]], []⟩) (fun _ => rfl) ?_ ?_
    ·refine Mir.block (Mir.loopR 15 (Mir.seqK (Mir.region fun e h => ?_)))
     simp only [↓reduceIte, reduceCtorEq, nA, nS, nM, nE, nL, nT, nB, iT, iN, iE, and_self, SR, SV, ENMB]
     refine Mir.use (e := e) ?_ h
     refine Mir.seqK (Mir.condT rfl (Mir.skip (Mir.toK (Mir.seqK (Mir.block (Mir.seqK (Mir.region fun e h => ?_)))))))
     simp only [↓reduceIte, reduceCtorEq, nA, nS, nM, nE, nL, nT, nB, iT, iN, iE, and_self, SR, SV, ENMB]
     refine Mir.use (e := e) ?_ h
     refine Mir.seqK (Mir.bind fun y168 hy156 => Mir.region fun e h => ?_)
     simp only [↓reduceIte, reduceCtorEq, nA, nS, nM, nE, nL, nT, nB, iT, iN, iE, and_self, SR, SV, und_58, sz_23, ag_23, ENMB]
     refine SpecS.by (tb_far_spec hy156) (by simp only [↓reduceIte, reduceCtorEq, nA, nE, nL, and_self, and_true, true_and, SL, ENMB]) ?_
     simp only [↓reduceIte, reduceCtorEq, nA, nS, nM, nE, nL, nT, nB, iT, iN, iE, and_self, SR, SV, ENMB]
     refine Mir.use (e := e) ?_ h
     refine Mir.cond rfl (fun hb158 => ?_) (fun hb158 => ?_)
     ·refine Mir.seqK (Mir.region fun e h => ?_)
      simp only [↓reduceIte, reduceCtorEq, nA, nS, nM, nE, nL, nT, nB, iT, iN, iE, and_self, SR, SV, ENMB]
      refine Mir.use (e := e) ?_ h
      refine Mir.ret fun e h => ?_
      cases h
      simp only [↓reduceIte, reduceCtorEq, nA, nE, nL, and_self, and_true, true_and, SL, ENMB, Tryd.results43]
     ·refine Mir.skip (Mir.toB (Mir.toK (Mir.region fun e h => ?_)))
      simp only [↓reduceIte, reduceCtorEq, nA, nS, nM, nE, nL, nT, nB, iT, iN, iE, and_self, SR, SV, (nr rfl : IntKind.i64.wrap (0 + 1) = 1), ENMB]
      refine Mir.useN (e := e) ?_ h
      refine Mir.seqK (Mir.region fun e h => ?_)
      simp only [↓reduceIte, reduceCtorEq, nA, nS, nM, nE, nL, nT, nB, iT, iN, iE, and_self, SR, SV, ENMB]
      refine Mir.use (e := e) ?_ h
      refine Mir.seqK (Mir.condT rfl (Mir.skip (Mir.toK (Mir.seqK (Mir.block (Mir.seqK (Mir.region fun e h => ?_)))))))
      simp only [↓reduceIte, reduceCtorEq, nA, nS, nM, nE, nL, nT, nB, iT, iN, iE, and_self, SR, SV, ENMB]
      refine Mir.use (e := e) ?_ h
      refine Mir.seqK (Mir.bind fun y170 hy161 => Mir.region fun e h => ?_)
      simp only [↓reduceIte, reduceCtorEq, nA, nS, nM, nE, nL, nT, nB, iT, iN, iE, and_self, SR, SV, und_58, sz_23, ag_23, ENMB]
      refine SpecS.by (tb_far_spec hy161) (by simp only [↓reduceIte, reduceCtorEq, nA, nE, nL, and_self, and_true, true_and, SL, ENMB]) ?_
      simp only [↓reduceIte, reduceCtorEq, nA, nS, nM, nE, nL, nT, nB, iT, iN, iE, and_self, SR, SV, ENMB]
      refine Mir.use (e := e) ?_ h
      refine Mir.cond rfl (fun hb163 => ?_) (fun hb163 => ?_)
      ·refine Mir.seqK (Mir.region fun e h => ?_)
       simp only [↓reduceIte, reduceCtorEq, nA, nS, nM, nE, nL, nT, nB, iT, iN, iE, and_self, SR, SV, ENMB]
       refine Mir.use (e := e) ?_ h
       refine Mir.ret fun e h => ?_
       cases h
       simp only [↓reduceIte, reduceCtorEq, nA, nE, nL, and_self, and_true, true_and, SL, ENMB, Tryd.results43]
      ·refine Mir.skip (Mir.toB (Mir.toK (Mir.region fun e h => ?_)))
       simp only [↓reduceIte, reduceCtorEq, nA, nS, nM, nE, nL, nT, nB, iT, iN, iE, and_self, SR, SV, (nr rfl : IntKind.i64.wrap (1 + 1) = 2), ENMB]
       refine Mir.useN (e := e) ?_ h
       refine Mir.seqK (Mir.region fun e h => ?_)
       simp only [↓reduceIte, reduceCtorEq, nA, nS, nM, nE, nL, nT, nB, iT, iN, iE, and_self, SR, SV, ENMB]
       refine Mir.use (e := e) ?_ h
       refine Mir.seqK (Mir.condT rfl (Mir.skip (Mir.toK (Mir.seqK (Mir.block (Mir.seqK (Mir.region fun e h => ?_)))))))
       simp only [↓reduceIte, reduceCtorEq, nA, nS, nM, nE, nL, nT, nB, iT, iN, iE, and_self, SR, SV, ENMB]
       refine Mir.use (e := e) ?_ h
       refine Mir.seqK (Mir.bind fun y172 hy166 => Mir.region fun e h => ?_)
       simp only [↓reduceIte, reduceCtorEq, nA, nS, nM, nE, nL, nT, nB, iT, iN, iE, and_self, SR, SV, und_58, sz_23, ag_23, ENMB]
       refine SpecS.by (tb_far_spec hy166) (by simp only [↓reduceIte, reduceCtorEq, nA, nE, nL, and_self, and_true, true_and, SL, ENMB]) ?_
       simp only [↓reduceIte, reduceCtorEq, nA, nS, nM, nE, nL, nT, nB, iT, iN, iE, and_self, SR, SV, ENMB]
       refine Mir.use (e := e) ?_ h
       refine Mir.cond rfl (fun hb168 => ?_) (fun hb168 => ?_)
       ·refine Mir.seqK (Mir.region fun e h => ?_)
        simp only [↓reduceIte, reduceCtorEq, nA, nS, nM, nE, nL, nT, nB, iT, iN, iE, and_self, SR, SV, ENMB]
        refine Mir.use (e := e) ?_ h
        refine Mir.ret fun e h => ?_
        cases h
        simp only [↓reduceIte, reduceCtorEq, nA, nE, nL, and_self, and_true, true_and, SL, ENMB, Tryd.results43]
       ·refine Mir.skip (Mir.toB (Mir.toK (Mir.region fun e h => ?_)))
        simp only [↓reduceIte, reduceCtorEq, nA, nS, nM, nE, nL, nT, nB, iT, iN, iE, and_self, SR, SV, (nr rfl : IntKind.i64.wrap (2 + 1) = 3), ENMB]
        refine Mir.useN (e := e) ?_ h
        refine Mir.seqK (Mir.region fun e h => ?_)
        simp only [↓reduceIte, reduceCtorEq, nA, nS, nM, nE, nL, nT, nB, iT, iN, iE, and_self, SR, SV, ENMB]
        refine Mir.use (e := e) ?_ h
        refine Mir.seqK (Mir.condT rfl (Mir.skip (Mir.toK (Mir.seqK (Mir.block (Mir.seqK (Mir.region fun e h => ?_)))))))
        simp only [↓reduceIte, reduceCtorEq, nA, nS, nM, nE, nL, nT, nB, iT, iN, iE, and_self, SR, SV, ENMB]
        refine Mir.use (e := e) ?_ h
        refine Mir.seqK (Mir.bind fun y174 hy171 => Mir.region fun e h => ?_)
        simp only [↓reduceIte, reduceCtorEq, nA, nS, nM, nE, nL, nT, nB, iT, iN, iE, and_self, SR, SV, und_58, sz_23, ag_23, ENMB]
        refine SpecS.by (tb_far_spec hy171) (by simp only [↓reduceIte, reduceCtorEq, nA, nE, nL, and_self, and_true, true_and, SL, ENMB]) ?_
        simp only [↓reduceIte, reduceCtorEq, nA, nS, nM, nE, nL, nT, nB, iT, iN, iE, and_self, SR, SV, ENMB]
        refine Mir.use (e := e) ?_ h
        refine Mir.cond rfl (fun hb173 => ?_) (fun hb173 => ?_)
        ·refine Mir.seqK (Mir.region fun e h => ?_)
         simp only [↓reduceIte, reduceCtorEq, nA, nS, nM, nE, nL, nT, nB, iT, iN, iE, and_self, SR, SV, ENMB]
         refine Mir.use (e := e) ?_ h
         refine Mir.ret fun e h => ?_
         cases h
         simp only [↓reduceIte, reduceCtorEq, nA, nE, nL, and_self, and_true, true_and, SL, ENMB, Tryd.results43]
        ·refine Mir.skip (Mir.toB (Mir.toK (Mir.region fun e h => ?_)))
         simp only [↓reduceIte, reduceCtorEq, nA, nS, nM, nE, nL, nT, nB, iT, iN, iE, and_self, SR, SV, (nr rfl : IntKind.i64.wrap (3 + 1) = 4), ENMB]
         refine Mir.useN (e := e) ?_ h
         refine Mir.seqK (Mir.region fun e h => ?_)
         simp only [↓reduceIte, reduceCtorEq, nA, nS, nM, nE, nL, nT, nB, iT, iN, iE, and_self, SR, SV, ENMB]
         refine Mir.use (e := e) ?_ h
         refine Mir.seqK (Mir.condT rfl (Mir.skip (Mir.toK (Mir.seqK (Mir.block (Mir.seqK (Mir.region fun e h => ?_)))))))
         simp only [↓reduceIte, reduceCtorEq, nA, nS, nM, nE, nL, nT, nB, iT, iN, iE, and_self, SR, SV, ENMB]
         refine Mir.use (e := e) ?_ h
         refine Mir.seqK (Mir.bind fun y176 hy176 => Mir.region fun e h => ?_)
         simp only [↓reduceIte, reduceCtorEq, nA, nS, nM, nE, nL, nT, nB, iT, iN, iE, and_self, SR, SV, und_58, sz_23, ag_23, ENMB]
         refine SpecS.by (tb_far_spec hy176) (by simp only [↓reduceIte, reduceCtorEq, nA, nE, nL, and_self, and_true, true_and, SL, ENMB]) ?_
         simp only [↓reduceIte, reduceCtorEq, nA, nS, nM, nE, nL, nT, nB, iT, iN, iE, and_self, SR, SV, ENMB]
         refine Mir.use (e := e) ?_ h
         refine Mir.cond rfl (fun hb178 => ?_) (fun hb178 => ?_)
         ·refine Mir.seqK (Mir.region fun e h => ?_)
          simp only [↓reduceIte, reduceCtorEq, nA, nS, nM, nE, nL, nT, nB, iT, iN, iE, and_self, SR, SV, ENMB]
          refine Mir.use (e := e) ?_ h
          refine Mir.ret fun e h => ?_
          cases h
          simp only [↓reduceIte, reduceCtorEq, nA, nE, nL, and_self, and_true, true_and, SL, ENMB, Tryd.results43]
         ·refine Mir.skip (Mir.toB (Mir.toK (Mir.region fun e h => ?_)))
          simp only [↓reduceIte, reduceCtorEq, nA, nS, nM, nE, nL, nT, nB, iT, iN, iE, and_self, SR, SV, (nr rfl : IntKind.i64.wrap (4 + 1) = 5), ENMB]
          refine Mir.useN (e := e) ?_ h
          refine Mir.seqK (Mir.region fun e h => ?_)
          simp only [↓reduceIte, reduceCtorEq, nA, nS, nM, nE, nL, nT, nB, iT, iN, iE, and_self, SR, SV, ENMB]
          refine Mir.use (e := e) ?_ h
          refine Mir.seqK (Mir.condT rfl (Mir.skip (Mir.toK (Mir.seqK (Mir.block (Mir.seqK (Mir.region fun e h => ?_)))))))
          simp only [↓reduceIte, reduceCtorEq, nA, nS, nM, nE, nL, nT, nB, iT, iN, iE, and_self, SR, SV, ENMB]
          refine Mir.use (e := e) ?_ h
          refine Mir.seqK (Mir.bind fun y178 hy181 => Mir.region fun e h => ?_)
          simp only [↓reduceIte, reduceCtorEq, nA, nS, nM, nE, nL, nT, nB, iT, iN, iE, and_self, SR, SV, und_58, sz_23, ag_23, ENMB]
          refine SpecS.by (tb_far_spec hy181) (by simp only [↓reduceIte, reduceCtorEq, nA, nE, nL, and_self, and_true, true_and, SL, ENMB]) ?_
          simp only [↓reduceIte, reduceCtorEq, nA, nS, nM, nE, nL, nT, nB, iT, iN, iE, and_self, SR, SV, ENMB]
          refine Mir.use (e := e) ?_ h
          refine Mir.cond rfl (fun hb183 => ?_) (fun hb183 => ?_)
          ·refine Mir.seqK (Mir.region fun e h => ?_)
           simp only [↓reduceIte, reduceCtorEq, nA, nS, nM, nE, nL, nT, nB, iT, iN, iE, and_self, SR, SV, ENMB]
           refine Mir.use (e := e) ?_ h
           refine Mir.ret fun e h => ?_
           cases h
           simp only [↓reduceIte, reduceCtorEq, nA, nE, nL, and_self, and_true, true_and, SL, ENMB, Tryd.results43]
          ·refine Mir.skip (Mir.toB (Mir.toK (Mir.region fun e h => ?_)))
           simp only [↓reduceIte, reduceCtorEq, nA, nS, nM, nE, nL, nT, nB, iT, iN, iE, and_self, SR, SV, (nr rfl : IntKind.i64.wrap (5 + 1) = 6), ENMB]
           refine Mir.useN (e := e) ?_ h
           refine Mir.seqK (Mir.region fun e h => ?_)
           simp only [↓reduceIte, reduceCtorEq, nA, nS, nM, nE, nL, nT, nB, iT, iN, iE, and_self, SR, SV, ENMB]
           refine Mir.use (e := e) ?_ h
           refine Mir.seqK (Mir.condF rfl (Mir.exit fun e h => ?_))
           cases h
           simp only [↓reduceIte, reduceCtorEq, nA, nE, nL, and_self, and_true, true_and, SL, ENMB, Tryd.results43]
    ·intro v166
     refine Mir.toK (Mir.seqK (Mir.region fun e h => ?_))
     simp only [↓reduceIte, reduceCtorEq, nA, nS, nM, nE, nL, nT, nB, iT, iN, iE, and_self, SR, SV, ENMB]
     refine Mir.use (e := e) ?_ h
     refine Mir.ret fun e h => ?_
     cases h
     simp only [↓reduceIte, reduceCtorEq, nA, nE, nL, and_self, and_true, true_and, SL, ENMB, Tryd.results43]
   simp only [↓reduceIte, reduceCtorEq, nA, nS, nM, nE, nL, nT, nB, iT, iN, iE, and_self, SR, SV, ENMB]
   refine Mir.use (e := e) ?_ h
   refine Mir.ret fun e h => ?_
   cases h
   simp only [↓reduceIte, reduceCtorEq, nA, nE, nL, and_self, and_true, true_and, SL, ENMB, Tryd.results24]
  simp only [↓reduceIte, reduceCtorEq, nA, nS, nM, nE, nL, nT, nB, iT, iN, iE, and_self, SR, SV, ENMB]
  refine Mir.use (e := e) ?_ h
  refine Mir.cond rfl (fun hb185 => ?_) (fun hb185 => ?_)
  ·refine Mir.seqK (Mir.region fun e h => ?_)
   simp only [↓reduceIte, reduceCtorEq, nA, nS, nM, nE, nL, nT, nB, iT, iN, iE, and_self, SR, SV, ENMB]
   refine Mir.use (e := e) ?_ h
   refine Mir.ret fun e h => ?_
   cases h
   simp only [↓reduceIte, reduceCtorEq, nA, nE, nL, and_self, and_true, true_and, SL, ENMB, Tryd.results9]
  ·refine Mir.skip (Mir.toK (Mir.seqK (Mir.seqK (Mir.region fun e h => ?_))))
   simp only [↓reduceIte, reduceCtorEq, nA, nS, nM, nE, nL, nT, nB, iT, iN, iE, and_self, SR, SV, fld_33_1, sz_31, ag_31, und_31, ENMB]
   refine Mir.use (e := e) ?_ h
   refine Mir.join (fun v215 : Unit => [U, U, U, U, U, U, U, U, U, U, U, U, U, U, U, U, U, U, U, U, U, U, U, U, U, U, U, U, U, U, U, U, U, U, U, U]) (fun v215 : Unit => ⟨[[.d (.int .i64 a0.Work.e0.X), .d (.int .i64 a0.Work.e0.Y), .d (.int .i64 a0.Work.e0.Z), .d (.int .i64 a0.Work.e1.X), .d (.int .i64 a0.Work.e1.Y), .d (.int .i64 a0.Work.e1.Z), .d (.int .i64 a0.Work.e2.X), .d (.int .i64 a0.Work.e2.Y), .d (.int .i64 a0.Work.e2.Z), .d (.int .i64 a0.Work.e3.X), .d (.int .i64 a0.Work.e3.Y), .d (.int .i64 a0.Work.e3.Z), .d (.int .i64 a0.Work.e4.X), .d (.int .i64 a0.Work.e4.Y), .d (.int .i64 a0.Work.e4.Z), .d (.int .i64 a0.Work.e5.X), .d (.int .i64 a0.Work.e5.Y), .d (.int .i64 a0.Work.e5.Z), .d (.list (List.map encTableLength a0.Lengths))]], []⟩) (fun _ => rfl) ?_ ?_
   ·refine Mir.block (Mir.guard fun qg284 => Mir.range (fun (i243 : Nat) (v244 : Unit) => [U, .ptr 0 0, U, U, U, U, U, U, U, .d (.list (List.map encTableLength a0.Lengths)), .d (.int .i64 (a0.Lengths.length : Int)), .d (.int .i64 (i243 : Int)), U, U, U, U, U, U, U, U, U, U, U, U, U, U, U, U, U, U, U, U, U, U, U, U]) (fun (i243 : Nat) (v244 : Unit) => ⟨[[.d (.int .i64 a0.Work.e0.X), .d (.int .i64 a0.Work.e0.Y), .d (.int .i64 a0.Work.e0.Z), .d (.int .i64 a0.Work.e1.X), .d (.int .i64 a0.Work.e1.Y), .d (.int .i64 a0.Work.e1.Z), .d (.int .i64 a0.Work.e2.X), .d (.int .i64 a0.Work.e2.Y), .d (.int .i64 a0.Work.e2.Z), .d (.int .i64 a0.Work.e3.X), .d (.int .i64 a0.Work.e3.Y), .d (.int .i64 a0.Work.e3.Z), .d (.int .i64 a0.Work.e4.X), .d (.int .i64 a0.Work.e4.Y), .d (.int .i64 a0.Work.e4.Z), .d (.int .i64 a0.Work.e5.X), .d (.int .i64 a0.Work.e5.Y), .d (.int .i64 a0.Work.e5.Z), .d (.list (List.map encTableLength a0.Lengths))]], []⟩) qg284 (fun _ _ => rfl) (by simp only [↓reduceIte, reduceCtorEq, nA, nE, nL, and_self, and_true, true_and, SL, ENMB, (nr rfl : ((0 : Nat) : Int) = 0)]) (by simp only [↓reduceIte, reduceCtorEq, nA, nE, nL, and_self, and_true, true_and, SL, ENMB, (nr rfl : ((0 : Nat) : Int) = 0)]) ?_ ?_)
    ·intro i243 e245 v244 qr282
     refine Mir.seqK (Mir.region fun e h => ?_)
     simp only [↓reduceIte, reduceCtorEq, nA, nS, nM, nE, nL, nT, nB, iT, iN, iE, and_self, SR, SV, qr282, ENMB]
     refine Mir.use (e := e) ?_ h
     refine Mir.seqK (Mir.condT rfl (Mir.skip (Mir.toK (Mir.seqK (Mir.block (Mir.seqK (Mir.region fun e h => ?_)))))))
     simp only [↓reduceIte, reduceCtorEq, nA, nS, nM, nE, nL, nT, nB, iT, iN, iE, and_self, SR, SV, und_31, sz_48, qr282, Int.toNat_natCast, ag_48, zero_48, ENMB]
     refine Mir.use (e := e) ?_ h
     refine Mir.seqK (Mir.joinO (fun v251 : Bool => [U, .ptr 0 0, U, U, U, U, U, U, U, .d (.list (List.map encTableLength a0.Lengths)), .d (.int .i64 (a0.Lengths.length : Int)), .d (.int .i64 (i243 : Int)), U, U, U, U, U, U, U, U, U, U, U, U, U, U, U, U, U, U, U, U, U, U, .d (.bool v251), U]) (fun v251 : Bool => ⟨[[.d (.int .i64 a0.Work.e0.X), .d (.int .i64 a0.Work.e0.Y), .d (.int .i64 a0.Work.e0.Z), .d (.int .i64 a0.Work.e1.X), .d (.int .i64 a0.Work.e1.Y), .d (.int .i64 a0.Work.e1.Z), .d (.int .i64 a0.Work.e2.X), .d (.int .i64 a0.Work.e2.Y), .d (.int .i64 a0.Work.e2.Z), .d (.int .i64 a0.Work.e3.X), .d (.int .i64 a0.Work.e3.Y), .d (.int .i64 a0.Work.e3.Z), .d (.int .i64 a0.Work.e4.X), .d (.int .i64 a0.Work.e4.Y), .d (.int .i64 a0.Work.e4.Z), .d (.int .i64 a0.Work.e5.X), .d (.int .i64 a0.Work.e5.Y), .d (.int .i64 a0.Work.e5.Z), .d (.list (List.map encTableLength a0.Lengths))], [.d (.int .i64 e245.Number), .d (.int .i64 e245.Length)]], []⟩) (fun _ => rfl) ?_ ?_)
     ·refine Mir.bind fun y249 hy290 => Mir.ite (fun hb291 => ?_) (fun hb291 => ?_)
      ·refine Mir.ite (fun hb292 => ?_) (fun hb292 => ?_)
       ·refine Mir.bind fun e250 q293 => ?_
        replace q293 := gt_ok q293
        refine Mir.regionD [] (by kernel_rfl) fun e h => ?_
        simp only [↓reduceIte, reduceCtorEq, nA, nS, nM, nE, nL, nT, nB, iT, iN, iE, and_self, SR, SV, sepL_nil, sepL_cons, sepV_ne, sepV_d, sepV_i, true_and, Bool.and_self, ag_48, sz_48, ENMB, hb291, hb292]
        refine Spec.by (tb_entry_spec hy290) (by simp only [↓reduceIte, reduceCtorEq, nA, nE, nL, and_self, and_true, true_and, SL, ENMB, hb291, hb292]) ?_
        simp only [↓reduceIte, reduceCtorEq, nA, nS, nM, nE, nL, nT, nB, iT, iN, iE, and_self, SR, SV, sepL_nil, sepL_cons, sepV_ne, sepV_d, sepV_i, true_and, Bool.and_self, fld_33_1, sz_31, ag_31, und_31, sz_48, q293, fld_48_0, sz_2, ag_2, ENMB, hb291, hb292]
        cases h
        simp only [↓reduceIte, reduceCtorEq, nA, nE, nL, and_self, and_true, true_and, SL, ENMB, hb291, hb292]
       ·refine Mir.regionD [] (by kernel_rfl) fun e h => ?_
        simp only [↓reduceIte, reduceCtorEq, nA, nS, nM, nE, nL, nT, nB, iT, iN, iE, and_self, SR, SV, sepL_nil, sepL_cons, sepV_ne, sepV_d, sepV_i, true_and, Bool.and_self, ag_48, sz_48, ENMB, hb291, hb292]
        refine Spec.by (tb_entry_spec hy290) (by simp only [↓reduceIte, reduceCtorEq, nA, nE, nL, and_self, and_true, true_and, SL, ENMB, hb291, hb292]) ?_
        simp only [↓reduceIte, reduceCtorEq, nA, nS, nM, nE, nL, nT, nB, iT, iN, iE, and_self, SR, SV, sepL_nil, sepL_cons, sepV_ne, sepV_d, sepV_i, true_and, Bool.and_self, ENMB, hb291, hb292]
        cases h
        simp only [↓reduceIte, reduceCtorEq, nA, nE, nL, and_self, and_true, true_and, SL, ENMB, hb291, hb292]
      ·refine Mir.regionD [] (by kernel_rfl) fun e h => ?_
       simp only [↓reduceIte, reduceCtorEq, nA, nS, nM, nE, nL, nT, nB, iT, iN, iE, and_self, SR, SV, sepL_nil, sepL_cons, sepV_ne, sepV_d, sepV_i, true_and, Bool.and_self, ag_48, sz_48, ENMB, hb291]
       refine Spec.by (tb_entry_spec hy290) (by simp only [↓reduceIte, reduceCtorEq, nA, nE, nL, and_self, and_true, true_and, SL, ENMB, hb291]) ?_
       simp only [↓reduceIte, reduceCtorEq, nA, nS, nM, nE, nL, nT, nB, iT, iN, iE, and_self, SR, SV, sepL_nil, sepL_cons, sepV_ne, sepV_d, sepV_i, true_and, Bool.and_self, ENMB, hb291]
       cases h
       simp only [↓reduceIte, reduceCtorEq, nA, nE, nL, and_self, and_true, true_and, SL, ENMB, hb291]
     ·intro v251
      refine Mir.toK (Mir.cond rfl (fun hb295 => ?_) (fun hb295 => ?_))
      ·refine Mir.seqK (Mir.region fun e h => ?_)
       simp only [↓reduceIte, reduceCtorEq, nA, nS, nM, nE, nL, nT, nB, iT, iN, iE, and_self, SR, SV, ENMB]
       refine Mir.use (e := e) ?_ h
       refine Mir.ret fun e h => ?_
       cases h
       simp only [↓reduceIte, reduceCtorEq, nA, nE, nL, and_self, and_true, true_and, SL, ENMB, Tryd.results9]
      ·refine Mir.skip (Mir.toB (Mir.toK (Mir.region fun e h => ?_)))
       simp only [↓reduceIte, reduceCtorEq, nA, nS, nM, nE, nL, nT, nB, iT, iN, iE, and_self, SR, SV, ENMB]
       cases h
       simp only [↓reduceIte, reduceCtorEq, nA, nE, nL, and_self, and_true, true_and, SL, ENMB, Tryd.results9, qr282]
    ·intro v244 qd283
     refine Mir.seqK (Mir.region fun e h => ?_)
     simp only [↓reduceIte, reduceCtorEq, nA, nS, nM, nE, nL, nT, nB, iT, iN, iE, and_self, SR, SV, qd283, ENMB]
     refine Mir.use (e := e) ?_ h
     refine Mir.seqK (Mir.condF rfl (Mir.exit fun e h => ?_))
     cases h
     simp only [↓reduceIte, reduceCtorEq, nA, nE, nL, and_self, and_true, true_and, SL, ENMB, Tryd.results9]
   ·intro v215
    refine Mir.toK (Mir.seqK (Mir.region fun e h => ?_))
    simp only [↓reduceIte, reduceCtorEq, nA, nS, nM, nE, nL, nT, nB, iT, iN, iE, and_self, SR, SV, ENMB]
    refine Mir.use (e := e) ?_ h
    refine Mir.ret fun e h => ?_
    cases h
    simp only [↓reduceIte, reduceCtorEq, nA, nE, nL, and_self, and_true, true_and, SL, ENMB, Tryd.results9]

def tb_slot (a0 : Int) : Option (Int × Int) :=
  if (((Int.tmod a0 1000) != 0) || ((decide (a0 < 54000)) || (decide (a0 > 59000)))) = true then
    some (0, 4)
  else
    some (IntKind.i64.wrap ((IntKind.i64.wrap (Int.tdiv a0 1000)) - 54), 0)
theorem tb_slot_spec {a0 : Int} {y : Int × Int} (h : tb_slot a0 = some y) : Spec gP 29 [.d (.int .i64 a0)] (.tuple [.d (.int .i64 y.1), .d (.int .i64 y.2)]) := by
  refine spec_mir Tryd.func29 rfl (by kernel_rfl) (by kernel_rfl) (fun y : Int × Int => .tuple [.d (.int .i64 y.1), .d (.int .i64 y.2)]) ?_ h
  unfold tb_slot
  simp only [List.replicate, List.length, nS, nA, Tryd.ntmps29, SV]
  refine Mir.seqK (Mir.region fun e h => ?_)
  simp only [↓reduceIte, reduceCtorEq, nA, nS, nM, nE, nL, nT, nB, iT, iN, iE, and_self, SR, SV]
  refine Mir.use (e := e) ?_ h
  refine Mir.seqK (Mir.seqK (Mir.joinV [.d (.int .i64 a0), U, U, U, U, U, U, U, U, U, U, U, U, U, .d (.bool (((Int.tmod a0 1000) != 0) || ((decide (a0 < 54000)) || (decide (a0 > 59000))))), U, U, U] ⟨[], []⟩ rfl ?_ ?_))
  ·refine SWs.region ?_
   rcases Bool.eq_false_or_eq_true ((Int.tmod a0 1000) != 0) with hb1 | hb1
   ·simp only [↓reduceIte, reduceCtorEq, nA, nS, nM, nE, nL, nT, nB, iT, iN, iE, and_self, SR, SV, SL, PB, hb1]
   ·rcases Bool.eq_false_or_eq_true (decide (a0 < 54000)) with hb2 | hb2
    ·simp only [↓reduceIte, reduceCtorEq, nA, nS, nM, nE, nL, nT, nB, iT, iN, iE, and_self, SR, SV, SL, PB, hb1, hb2]
    ·simp only [↓reduceIte, reduceCtorEq, nA, nS, nM, nE, nL, nT, nB, iT, iN, iE, and_self, SR, SV, SL, PB, hb1, hb2]
  ·refine Mir.toK (Mir.cond rfl (fun hb4 => ?_) (fun hb4 => ?_))
   ·refine Mir.seqK (Mir.region fun e h => ?_)
    simp only [↓reduceIte, reduceCtorEq, nA, nS, nM, nE, nL, nT, nB, iT, iN, iE, and_self, SR, SV]
    refine Mir.use (e := e) ?_ h
    refine Mir.ret fun e h => ?_
    cases h
    simp only [↓reduceIte, reduceCtorEq, nA, nE, nL, and_self, and_true, true_and, SL, Tryd.results29]
   ·refine Mir.skip (Mir.toK (Mir.seqK (Mir.region fun e h => ?_)))
    simp only [↓reduceIte, reduceCtorEq, nA, nS, nM, nE, nL, nT, nB, iT, iN, iE, and_self, SR, SV]
    refine Mir.use (e := e) ?_ h
    refine Mir.ret fun e h => ?_
    cases h
    simp only [↓reduceIte, reduceCtorEq, nA, nE, nL, and_self, and_true, true_and, SL, Tryd.results29]

def cmp_isNaN_int64 (a0 : Int) : Option Bool :=
  some (a0 != a0)
theorem cmp_isNaN_int64_spec {a0 : Int} {y : Bool} (h : cmp_isNaN_int64 a0 = some y) : Spec gP 58 [.d (.int .i64 a0)] (.d (.bool y)) := by
  refine spec_mir Tryd.func58 rfl (by kernel_rfl) (by kernel_rfl) (fun y : Bool => .d (.bool y)) ?_ h
  unfold cmp_isNaN_int64
  simp only [List.replicate, List.length, nS, nA, Tryd.ntmps58, SV]
  refine Mir.seqK (Mir.region fun e h => ?_)
  simp only [↓reduceIte, reduceCtorEq, nA, nS, nM, nE, nL, nT, nB, iT, iN, iE, and_self, SR, SV]
  refine Mir.use (e := e) ?_ h
  refine Mir.seqK (Mir.region fun e h => ?_)
  simp only [↓reduceIte, reduceCtorEq, nA, nS, nM, nE, nL, nT, nB, iT, iN, iE, and_self, SR, SV]
  refine Mir.use (e := e) ?_ h
  refine Mir.ret fun e h => ?_
  cases h
  simp only [↓reduceIte, reduceCtorEq, nA, nE, nL, and_self, and_true, true_and, SL, Tryd.results58]

def cmp_Compare_int64 (a0 : Int) (a1 : Int) : Option Int :=
  bindO (cmp_isNaN_int64 a0) fun (y101 : Bool) =>
  bindO (cmp_isNaN_int64 a1) fun (y102 : Bool) =>
  if y101 = true then
    if y102 = true then
      some 0
    else
      some (-1)
  else
    if y102 = true then
      some 1
    else
      if (decide (a0 < a1)) = true then
        some (-1)
      else
        if (decide (a0 > a1)) = true then
          some 1
        else
          some 0
theorem cmp_Compare_int64_spec {a0 : Int} {a1 : Int} {y : Int} (h : cmp_Compare_int64 a0 a1 = some y) : Spec gP 48 [.d (.int .i64 a0), .d (.int .i64 a1)] (.d (.int .i64 y)) := by
  refine spec_mir Tryd.func48 rfl (by kernel_rfl) (by kernel_rfl) (fun y : Int => .d (.int .i64 y)) ?_ h
  unfold cmp_Compare_int64
  simp only [List.replicate, List.length, nS, nA, Tryd.ntmps48, SV]
  refine Mir.seqK (Mir.region fun e h => ?_)
  simp only [↓reduceIte, reduceCtorEq, nA, nS, nM, nE, nL, nT, nB, iT, iN, iE, and_self, SR, SV]
  refine Mir.use (e := e) ?_ h
  refine Mir.seqK (Mir.bind fun y101 hy1 => Mir.region fun e h => ?_)
  simp only [↓reduceIte, reduceCtorEq, nA, nS, nM, nE, nL, nT, nB, iT, iN, iE, and_self, SR, SV]
  refine SpecS.by (cmp_isNaN_int64_spec hy1) (by simp only [↓reduceIte, reduceCtorEq, nA, nE, nL, and_self, and_true, true_and, SL]) ?_
  simp only [↓reduceIte, reduceCtorEq, nA, nS, nM, nE, nL, nT, nB, iT, iN, iE, and_self, SR, SV]
  refine Mir.use (e := e) ?_ h
  refine Mir.seqK (Mir.bind fun y102 hy2 => Mir.region fun e h => ?_)
  simp only [↓reduceIte, reduceCtorEq, nA, nS, nM, nE, nL, nT, nB, iT, iN, iE, and_self, SR, SV]
  refine SpecS.by (cmp_isNaN_int64_spec hy2) (by simp only [↓reduceIte, reduceCtorEq, nA, nE, nL, and_self, and_true, true_and, SL]) ?_
  simp only [↓reduceIte, reduceCtorEq, nA, nS, nM, nE, nL, nT, nB, iT, iN, iE, and_self, SR, SV]
  refine Mir.use (e := e) ?_ h
  refine Mir.seqK (Mir.seqK (Mir.region fun e h => ?_))
  simp only [↓reduceIte, reduceCtorEq, nA, nS, nM, nE, nL, nT, nB, iT, iN, iE, and_self, SR, SV]
  refine Mir.use (e := e) ?_ h
  refine Mir.cond rfl (fun hb6 => ?_) (fun hb6 => ?_)
  ·refine Mir.seqK (Mir.seqK (Mir.region fun e h => ?_))
   simp only [↓reduceIte, reduceCtorEq, nA, nS, nM, nE, nL, nT, nB, iT, iN, iE, and_self, SR, SV]
   refine Mir.use (e := e) ?_ h
   refine Mir.cond rfl (fun hb8 => ?_) (fun hb8 => ?_)
   ·refine Mir.seqK (Mir.region fun e h => ?_)
    simp only [↓reduceIte, reduceCtorEq, nA, nS, nM, nE, nL, nT, nB, iT, iN, iE, and_self, SR, SV]
    refine Mir.use (e := e) ?_ h
    refine Mir.ret fun e h => ?_
    cases h
    simp only [↓reduceIte, reduceCtorEq, nA, nE, nL, and_self, and_true, true_and, SL, Tryd.results48]
   ·refine Mir.skip (Mir.toK (Mir.seqK (Mir.region fun e h => ?_)))
    simp only [↓reduceIte, reduceCtorEq, nA, nS, nM, nE, nL, nT, nB, iT, iN, iE, and_self, SR, SV]
    refine Mir.use (e := e) ?_ h
    refine Mir.ret fun e h => ?_
    cases h
    simp only [↓reduceIte, reduceCtorEq, nA, nE, nL, and_self, and_true, true_and, SL, Tryd.results48]
  ·refine Mir.skip (Mir.toK (Mir.seqK (Mir.seqK (Mir.region fun e h => ?_))))
   simp only [↓reduceIte, reduceCtorEq, nA, nS, nM, nE, nL, nT, nB, iT, iN, iE, and_self, SR, SV]
   refine Mir.use (e := e) ?_ h
   refine Mir.cond rfl (fun hb10 => ?_) (fun hb10 => ?_)
   ·refine Mir.seqK (Mir.region fun e h => ?_)
    simp only [↓reduceIte, reduceCtorEq, nA, nS, nM, nE, nL, nT, nB, iT, iN, iE, and_self, SR, SV]
    refine Mir.use (e := e) ?_ h
    refine Mir.ret fun e h => ?_
    cases h
    simp only [↓reduceIte, reduceCtorEq, nA, nE, nL, and_self, and_true, true_and, SL, Tryd.results48]
   ·refine Mir.skip (Mir.toK (Mir.seqK (Mir.seqK (Mir.region fun e h => ?_))))
    simp only [↓reduceIte, reduceCtorEq, nA, nS, nM, nE, nL, nT, nB, iT, iN, iE, and_self, SR, SV]
    refine Mir.use (e := e) ?_ h
    refine Mir.cond rfl (fun hb12 => ?_) (fun hb12 => ?_)
    ·refine Mir.seqK (Mir.region fun e h => ?_)
     simp only [↓reduceIte, reduceCtorEq, nA, nS, nM, nE, nL, nT, nB, iT, iN, iE, and_self, SR, SV]
     refine Mir.use (e := e) ?_ h
     refine Mir.ret fun e h => ?_
     cases h
     simp only [↓reduceIte, reduceCtorEq, nA, nE, nL, and_self, and_true, true_and, SL, Tryd.results48]
    ·refine Mir.skip (Mir.toK (Mir.seqK (Mir.seqK (Mir.region fun e h => ?_))))
     simp only [↓reduceIte, reduceCtorEq, nA, nS, nM, nE, nL, nT, nB, iT, iN, iE, and_self, SR, SV]
     refine Mir.use (e := e) ?_ h
     refine Mir.cond rfl (fun hb14 => ?_) (fun hb14 => ?_)
     ·refine Mir.seqK (Mir.region fun e h => ?_)
      simp only [↓reduceIte, reduceCtorEq, nA, nS, nM, nE, nL, nT, nB, iT, iN, iE, and_self, SR, SV]
      refine Mir.use (e := e) ?_ h
      refine Mir.ret fun e h => ?_
      cases h
      simp only [↓reduceIte, reduceCtorEq, nA, nE, nL, and_self, and_true, true_and, SL, Tryd.results48]
     ·refine Mir.skip (Mir.toK (Mir.seqK (Mir.region fun e h => ?_)))
      simp only [↓reduceIte, reduceCtorEq, nA, nS, nM, nE, nL, nT, nB, iT, iN, iE, and_self, SR, SV]
      refine Mir.use (e := e) ?_ h
      refine Mir.ret fun e h => ?_
      cases h
      simp only [↓reduceIte, reduceCtorEq, nA, nE, nL, and_self, and_true, true_and, SL, Tryd.results48]

def tb_find_c1 (a0 : TableLength) (a1 : Int) : Option Int :=
  bindO (cmp_Compare_int64 a0.Number a1) fun (y101 : Int) =>
  some y101
theorem tb_find_c1_spec {a0 : TableLength} {a1 : Int} {y : Int} (h : tb_find_c1 a0 a1 = some y) : Spec gP 47 [.agg [.d (.int .i64 a0.Number), .d (.int .i64 a0.Length)], .d (.int .i64 a1)] (.d (.int .i64 y)) := by
  refine spec_mir Tryd.func47 rfl (by kernel_rfl) (by kernel_rfl) (fun y : Int => .d (.int .i64 y)) ?_ h
  unfold tb_find_c1
  simp only [List.replicate, List.length, nS, nA, Tryd.ntmps47, SV]
  refine Mir.seqK (Mir.region fun e h => ?_)
  simp only [↓reduceIte, reduceCtorEq, nA, nS, nM, nE, nL, nT, nB, iT, iN, iE, and_self, SR, SV]
  refine Mir.use (e := e) ?_ h
  refine Mir.seqK (Mir.bind fun y101 hy1 => Mir.region fun e h => ?_)
  simp only [↓reduceIte, reduceCtorEq, nA, nS, nM, nE, nL, nT, nB, iT, iN, iE, and_self, SR, SV, fld_48_0, sz_2, ag_2]
  refine SpecS.by (cmp_Compare_int64_spec hy1) (by simp only [↓reduceIte, reduceCtorEq, nA, nE, nL, and_self, and_true, true_and, SL]) ?_
  simp only [↓reduceIte, reduceCtorEq, nA, nS, nM, nE, nL, nT, nB, iT, iN, iE, and_self, SR, SV]
  refine Mir.use (e := e) ?_ h
  refine Mir.ret fun e h => ?_
  cases h
  simp only [↓reduceIte, reduceCtorEq, nA, nE, nL, and_self, and_true, true_and, SL, Tryd.results47]

def tb_find (a0 : TableTable) (a1 : Int) : Option (Int × Bool) :=
  bindO (bindO (loopX (fun (v152 : Int × Int) =>
            if (decide (v152.1 < v152.2)) = true then
              bindO (gt a0.Lengths (IntKind.i64.wrap (shrI .u64 (IntKind.u64.wrap (IntKind.i64.wrap (v152.1 + v152.2))) 1))) fun (e153 : TableLength) =>
              bindO (tb_find_c1 e153 a1) fun (y154 : Int) =>
              if (decide (y154 < 0)) = true then
                some (.go (IntKind.i64.wrap ((IntKind.i64.wrap (shrI .u64 (IntKind.u64.wrap (IntKind.i64.wrap (v152.1 + v152.2))) 1)) + 1), v152.2))
              else
                some (.go (v152.1, IntKind.i64.wrap (shrI .u64 (IntKind.u64.wrap (IntKind.i64.wrap (v152.1 + v152.2))) 1)))
            else
              some (.ret v152.1)) fuel (0, (a0.Lengths.length : Int))) fun (v142 : Int) =>
      bindO (if (decide (v142 < (a0.Lengths.length : Int))) = true then
            bindO (gt a0.Lengths v142) fun (e155 : TableLength) =>
            bindO (tb_find_c1 e155 a1) fun (y156 : Int) =>
            some (y156 == 0)
          else
            some false) fun (v157 : Bool) =>
      some (v142, v157)) fun (v129 : Int × Bool) =>
  some (v129.1, v129.2)
theorem tb_find_spec {a0 : TableTable} {a1 : Int} {y : Int × Bool} (h : tb_find a0 a1 = some y) : Spec gP 32 [.agg [.d (.int .i64 a0.Work.e0.X), .d (.int .i64 a0.Work.e0.Y), .d (.int .i64 a0.Work.e0.Z), .d (.int .i64 a0.Work.e1.X), .d (.int .i64 a0.Work.e1.Y), .d (.int .i64 a0.Work.e1.Z), .d (.int .i64 a0.Work.e2.X), .d (.int .i64 a0.Work.e2.Y), .d (.int .i64 a0.Work.e2.Z), .d (.int .i64 a0.Work.e3.X), .d (.int .i64 a0.Work.e3.Y), .d (.int .i64 a0.Work.e3.Z), .d (.int .i64 a0.Work.e4.X), .d (.int .i64 a0.Work.e4.Y), .d (.int .i64 a0.Work.e4.Z), .d (.int .i64 a0.Work.e5.X), .d (.int .i64 a0.Work.e5.Y), .d (.int .i64 a0.Work.e5.Z), .d (.list (List.map encTableLength a0.Lengths))], .d (.int .i64 a1)] (.tuple [.d (.int .i64 y.1), .d (.bool y.2)]) := by
  refine spec_mir Tryd.func32 rfl (by kernel_rfl) (by kernel_rfl) (fun y : Int × Bool => .tuple [.d (.int .i64 y.1), .d (.bool y.2)]) ?_ h
  unfold tb_find
  simp only [List.replicate, List.length, nS, nA, Tryd.ntmps32, SV]
  refine Mir.seqK (Mir.region fun e h => ?_)
  simp only [↓reduceIte, reduceCtorEq, nA, nS, nM, nE, nL, nT, nB, iT, iN, iE, and_self, SR, SV, ENMB]
  refine Mir.use (e := e) ?_ h
  refine Mir.seqK (Mir.bind fun v129 hv34 => Mir.region fun e h => ?_)
  simp only [↓reduceIte, reduceCtorEq, nA, nS, nM, nE, nL, nT, nB, iT, iN, iE, and_self, SR, SV, fld_33_1, sz_31, ag_31, ENMB]
  refine SpecS.inl Tryd.func46 rfl (by kernel_rfl) (by kernel_rfl) (fun v129 : Int × Bool => .tuple [.d (.int .i64 v129.1), .d (.bool v129.2)]) (fun v129 : Int × Bool => ⟨[[.d (.int .i64 a0.Work.e0.X), .d (.int .i64 a0.Work.e0.Y), .d (.int .i64 a0.Work.e0.Z), .d (.int .i64 a0.Work.e1.X), .d (.int .i64 a0.Work.e1.Y), .d (.int .i64 a0.Work.e1.Z), .d (.int .i64 a0.Work.e2.X), .d (.int .i64 a0.Work.e2.Y), .d (.int .i64 a0.Work.e2.Z), .d (.int .i64 a0.Work.e3.X), .d (.int .i64 a0.Work.e3.Y), .d (.int .i64 a0.Work.e3.Z), .d (.int .i64 a0.Work.e4.X), .d (.int .i64 a0.Work.e4.Y), .d (.int .i64 a0.Work.e4.Z), .d (.int .i64 a0.Work.e5.X), .d (.int .i64 a0.Work.e5.Y), .d (.int .i64 a0.Work.e5.Z), .d (.list (List.map encTableLength a0.Lengths))]], []⟩) hv34 rfl ?_ ?_
  ·simp only [List.replicate, List.length, nS, nA, Tryd.ntmps46, SV]
   refine Mir.seqK (Mir.region fun e h => ?_)
   simp only [↓reduceIte, reduceCtorEq, nA, nS, nM, nE, nL, nT, nB, iT, iN, iE, and_self, SR, SV, ENMB]
   refine Mir.use (e := e) ?_ h
   refine Mir.seqK (Mir.region fun e h => ?_)
   simp only [↓reduceIte, reduceCtorEq, nA, nS, nM, nE, nL, nT, nB, iT, iN, iE, and_self, SR, SV, und_31, ENMB]
   refine Mir.use (e := e) ?_ h
   refine Mir.seqK (Mir.region fun e h => ?_)
   simp only [↓reduceIte, reduceCtorEq, nA, nS, nM, nE, nL, nT, nB, iT, iN, iE, and_self, SR, SV, ENMB]
   refine Mir.use (e := e) ?_ h
   refine Mir.seqK (Mir.joinO (fun v142 : Int => [.d (.list (List.map encTableLength a0.Lengths)), .d (.int .i64 a1), .fn 47 [], U, U, U, U, U, .d (.int .i64 (a0.Lengths.length : Int)), .d (.int .i64 v142), U, U, U, U, U, U, U, U, U, U, U, U, U, U, U, U, U, U, U, U, U, U, U, U, U, U, U, U, U, U, U, U, U, U, U, U, U, U, U]) (fun v142 : Int => ⟨[[.d (.int .i64 a0.Work.e0.X), .d (.int .i64 a0.Work.e0.Y), .d (.int .i64 a0.Work.e0.Z), .d (.int .i64 a0.Work.e1.X), .d (.int .i64 a0.Work.e1.Y), .d (.int .i64 a0.Work.e1.Z), .d (.int .i64 a0.Work.e2.X), .d (.int .i64 a0.Work.e2.Y), .d (.int .i64 a0.Work.e2.Z), .d (.int .i64 a0.Work.e3.X), .d (.int .i64 a0.Work.e3.Y), .d (.int .i64 a0.Work.e3.Z), .d (.int .i64 a0.Work.e4.X), .d (.int .i64 a0.Work.e4.Y), .d (.int .i64 a0.Work.e4.Z), .d (.int .i64 a0.Work.e5.X), .d (.int .i64 a0.Work.e5.Y), .d (.int .i64 a0.Work.e5.Z), .d (.list (List.map encTableLength a0.Lengths))]], []⟩) (fun _ => rfl) ?_ ?_)
   ·refine Mir.block (Mir.loop (fun v152 : Int × Int => [.d (.list (List.map encTableLength a0.Lengths)), .d (.int .i64 a1), .fn 47 [], U, U, U, U, U, .d (.int .i64 (a0.Lengths.length : Int)), .d (.int .i64 v152.1), .d (.int .i64 v152.2), U, U, U, U, U, U, U, U, U, U, U, U, U, U, U, U, U, U, U, U, U, U, U, U, U, U, U, U, U, U, U, U, U, U, U, U, U, U]) (fun v152 : Int × Int => ⟨[[.d (.int .i64 a0.Work.e0.X), .d (.int .i64 a0.Work.e0.Y), .d (.int .i64 a0.Work.e0.Z), .d (.int .i64 a0.Work.e1.X), .d (.int .i64 a0.Work.e1.Y), .d (.int .i64 a0.Work.e1.Z), .d (.int .i64 a0.Work.e2.X), .d (.int .i64 a0.Work.e2.Y), .d (.int .i64 a0.Work.e2.Z), .d (.int .i64 a0.Work.e3.X), .d (.int .i64 a0.Work.e3.Y), .d (.int .i64 a0.Work.e3.Z), .d (.int .i64 a0.Work.e4.X), .d (.int .i64 a0.Work.e4.Y), .d (.int .i64 a0.Work.e4.Z), .d (.int .i64 a0.Work.e5.X), .d (.int .i64 a0.Work.e5.Y), .d (.int .i64 a0.Work.e5.Z), .d (.list (List.map encTableLength a0.Lengths))]], []⟩) (fun _ => rfl) (by simp only [↓reduceIte, reduceCtorEq, nA, nE, nL, and_self, and_true, true_and, SL, ENMB]) (by simp only [↓reduceIte, reduceCtorEq, nA, nE, nL, and_self, and_true, true_and, SL, ENMB]) fun v152 => Mir.seqK (Mir.seqK (Mir.region fun e h => ?_)))
    simp only [↓reduceIte, reduceCtorEq, nA, nS, nM, nE, nL, nT, nB, iT, iN, iE, and_self, SR, SV, ENMB]
    refine Mir.use (e := e) ?_ h
    refine Mir.cond rfl (fun hb61 => ?_) (fun hb61 => ?_)
    ·refine Mir.skip (Mir.toK (Mir.block (Mir.seqK (Mir.region fun e h => ?_))))
     simp only [↓reduceIte, reduceCtorEq, nA, nS, nM, nE, nL, nT, nB, iT, iN, iE, and_self, SR, SV, und_3, und_102, ENMB]
     refine Mir.use (e := e) ?_ h
     refine Mir.seqK (Mir.bind fun e153 q62 => ?_)
     replace q62 := gt_ok q62
     refine Mir.bind fun y154 hy63 => Mir.region fun e h => ?_
     simp only [↓reduceIte, reduceCtorEq, nA, nS, nM, nE, nL, nT, nB, iT, iN, iE, and_self, SR, SV, und_31, sz_48, q62, ag_48, ENMB]
     refine SpecS.by (tb_find_c1_spec hy63) (by simp only [↓reduceIte, reduceCtorEq, nA, nE, nL, and_self, and_true, true_and, SL, ENMB]) ?_
     simp only [↓reduceIte, reduceCtorEq, nA, nS, nM, nE, nL, nT, nB, iT, iN, iE, and_self, SR, SV, ENMB]
     refine Mir.use (e := e) ?_ h
     refine Mir.cond rfl (fun hb64 => ?_) (fun hb64 => ?_)
     ·refine Mir.region fun e h => ?_
      simp only [↓reduceIte, reduceCtorEq, nA, nS, nM, nE, nL, nT, nB, iT, iN, iE, and_self, SR, SV, ENMB]
      cases h
      simp only [↓reduceIte, reduceCtorEq, nA, nE, nL, and_self, and_true, true_and, SL, ENMB, Tryd.results46]
     ·refine Mir.region fun e h => ?_
      simp only [↓reduceIte, reduceCtorEq, nA, nS, nM, nE, nL, nT, nB, iT, iN, iE, and_self, SR, SV, ENMB]
      cases h
      simp only [↓reduceIte, reduceCtorEq, nA, nE, nL, and_self, and_true, true_and, SL, ENMB, Tryd.results46]
    ·refine Mir.exit fun e h => ?_
     cases h
     simp only [↓reduceIte, reduceCtorEq, nA, nE, nL, and_self, and_true, true_and, SL, ENMB, Tryd.results46]
   ·intro v142
    refine Mir.toK (Mir.seqK (Mir.joinO (fun v157 : Bool => [U, U, U, U, U, U, .d (.int .i64 v142), .d (.bool v157), U, U, U, U, U, U, U, U, U, U, U, U, U, U, U, U, U, U, U, U, U, U, U, U, U, U, U, U, U, U, U, U, U, U, U, U, U, U, U, U, U]) (fun v157 : Bool => ⟨[[.d (.int .i64 a0.Work.e0.X), .d (.int .i64 a0.Work.e0.Y), .d (.int .i64 a0.Work.e0.Z), .d (.int .i64 a0.Work.e1.X), .d (.int .i64 a0.Work.e1.Y), .d (.int .i64 a0.Work.e1.Z), .d (.int .i64 a0.Work.e2.X), .d (.int .i64 a0.Work.e2.Y), .d (.int .i64 a0.Work.e2.Z), .d (.int .i64 a0.Work.e3.X), .d (.int .i64 a0.Work.e3.Y), .d (.int .i64 a0.Work.e3.Z), .d (.int .i64 a0.Work.e4.X), .d (.int .i64 a0.Work.e4.Y), .d (.int .i64 a0.Work.e4.Z), .d (.int .i64 a0.Work.e5.X), .d (.int .i64 a0.Work.e5.Y), .d (.int .i64 a0.Work.e5.Z), .d (.list (List.map encTableLength a0.Lengths))]], []⟩) (fun _ => rfl) ?_ ?_))
    ·refine Mir.ite (fun hb65 => ?_) (fun hb65 => ?_)
     ·refine Mir.bind fun e155 q66 => ?_
      replace q66 := gt_ok q66
      refine Mir.bind fun y156 hy67 => Mir.region fun e h => ?_
      simp only [↓reduceIte, reduceCtorEq, nA, nS, nM, nE, nL, nT, nB, iT, iN, iE, and_self, SR, SV, und_31, sz_48, q66, ag_48, ENMB, hb65]
      refine SpecS.by (tb_find_c1_spec hy67) (by simp only [↓reduceIte, reduceCtorEq, nA, nE, nL, and_self, and_true, true_and, SL, ENMB, hb65]) ?_
      simp only [↓reduceIte, reduceCtorEq, nA, nS, nM, nE, nL, nT, nB, iT, iN, iE, and_self, SR, SV, ENMB, hb65]
      cases h
      simp only [↓reduceIte, reduceCtorEq, nA, nE, nL, and_self, and_true, true_and, SL, ENMB, hb65]
     ·refine Mir.region fun e h => ?_
      simp only [↓reduceIte, reduceCtorEq, nA, nS, nM, nE, nL, nT, nB, iT, iN, iE, and_self, SR, SV, ENMB, hb65]
      cases h
      simp only [↓reduceIte, reduceCtorEq, nA, nE, nL, and_self, and_true, true_and, SL, ENMB, hb65]
    ·intro v157
     refine Mir.toK (Mir.ret fun e h => ?_)
     cases h
     simp only [↓reduceIte, reduceCtorEq, nA, nE, nL, and_self, and_true, true_and, SL, ENMB, Tryd.results46]
  simp only [↓reduceIte, reduceCtorEq, nA, nS, nM, nE, nL, nT, nB, iT, iN, iE, and_self, SR, SV, ENMB]
  refine Mir.use (e := e) ?_ h
  refine Mir.ret fun e h => ?_
  cases h
  simp only [↓reduceIte, reduceCtorEq, nA, nE, nL, and_self, and_true, true_and, SL, ENMB, Tryd.results32]

def tb_length (a0 : TableTable) (a1 : Int) : Option (Int × Int) :=
  if (a1 == 0) = true then
    some (0, 0)
  else
    bindO (tb_find (TableTable.mk a0.Work a0.Lengths) a1) fun (y101 : Int × Bool) =>
    if (!y101.2) = true then
      some (0, 4)
    else
      bindO (gt a0.Lengths y101.1) fun (e102 : TableLength) =>
      some (e102.Length, 0)
theorem tb_length_spec {a0 : TableTable} {a1 : Int} {y : Int × Int} (h : tb_length a0 a1 = some y) : Spec gP 51 [.agg [.d (.int .i64 a0.Work.e0.X), .d (.int .i64 a0.Work.e0.Y), .d (.int .i64 a0.Work.e0.Z), .d (.int .i64 a0.Work.e1.X), .d (.int .i64 a0.Work.e1.Y), .d (.int .i64 a0.Work.e1.Z), .d (.int .i64 a0.Work.e2.X), .d (.int .i64 a0.Work.e2.Y), .d (.int .i64 a0.Work.e2.Z), .d (.int .i64 a0.Work.e3.X), .d (.int .i64 a0.Work.e3.Y), .d (.int .i64 a0.Work.e3.Z), .d (.int .i64 a0.Work.e4.X), .d (.int .i64 a0.Work.e4.Y), .d (.int .i64 a0.Work.e4.Z), .d (.int .i64 a0.Work.e5.X), .d (.int .i64 a0.Work.e5.Y), .d (.int .i64 a0.Work.e5.Z), .d (.list (List.map encTableLength a0.Lengths))], .d (.int .i64 a1)] (.tuple [.d (.int .i64 y.1), .d (.int .i64 y.2)]) := by
  refine spec_mir Tryd.func51 rfl (by kernel_rfl) (by kernel_rfl) (fun y : Int × Int => .tuple [.d (.int .i64 y.1), .d (.int .i64 y.2)]) ?_ h
  unfold tb_length
  simp only [List.replicate, List.length, nS, nA, Tryd.ntmps51, SV]
  refine Mir.seqK (Mir.region fun e h => ?_)
  simp only [↓reduceIte, reduceCtorEq, nA, nS, nM, nE, nL, nT, nB, iT, iN, iE, and_self, SR, SV, ENMB]
  refine Mir.use (e := e) ?_ h
  refine Mir.seqK (Mir.seqK (Mir.region fun e h => ?_))
  simp only [↓reduceIte, reduceCtorEq, nA, nS, nM, nE, nL, nT, nB, iT, iN, iE, and_self, SR, SV, ENMB]
  refine Mir.use (e := e) ?_ h
  refine Mir.cond rfl (fun hb2 => ?_) (fun hb2 => ?_)
  ·refine Mir.seqK (Mir.region fun e h => ?_)
   simp only [↓reduceIte, reduceCtorEq, nA, nS, nM, nE, nL, nT, nB, iT, iN, iE, and_self, SR, SV, ENMB]
   refine Mir.use (e := e) ?_ h
   refine Mir.ret fun e h => ?_
   cases h
   simp only [↓reduceIte, reduceCtorEq, nA, nE, nL, and_self, and_true, true_and, SL, ENMB, Tryd.results51]
  ·refine Mir.skip (Mir.toK (Mir.seqK (Mir.bind fun y101 hy3 => Mir.region fun e h => ?_)))
   simp only [↓reduceIte, reduceCtorEq, nA, nS, nM, nE, nL, nT, nB, iT, iN, iE, and_self, SR, SV, ag_33, sz_33, ENMB]
   refine SpecS.by (tb_find_spec hy3) (by simp only [↓reduceIte, reduceCtorEq, nA, nE, nL, and_self, and_true, true_and, SL, ENMB]) ?_
   simp only [↓reduceIte, reduceCtorEq, nA, nS, nM, nE, nL, nT, nB, iT, iN, iE, and_self, SR, SV, ENMB]
   refine Mir.use (e := e) ?_ h
   refine Mir.seqK (Mir.seqK (Mir.region fun e h => ?_))
   simp only [↓reduceIte, reduceCtorEq, nA, nS, nM, nE, nL, nT, nB, iT, iN, iE, and_self, SR, SV, ENMB]
   refine Mir.use (e := e) ?_ h
   refine Mir.cond rfl (fun hb5 => ?_) (fun hb5 => ?_)
   ·refine Mir.seqK (Mir.region fun e h => ?_)
    simp only [↓reduceIte, reduceCtorEq, nA, nS, nM, nE, nL, nT, nB, iT, iN, iE, and_self, SR, SV, ENMB]
    refine Mir.use (e := e) ?_ h
    refine Mir.ret fun e h => ?_
    cases h
    simp only [↓reduceIte, reduceCtorEq, nA, nE, nL, and_self, and_true, true_and, SL, ENMB, Tryd.results51]
   ·refine Mir.skip (Mir.toK (Mir.seqK (Mir.bind fun e102 q6 => ?_)))
    replace q6 := gt_ok q6
    refine Mir.region fun e h => ?_
    simp only [↓reduceIte, reduceCtorEq, nA, nS, nM, nE, nL, nT, nB, iT, iN, iE, and_self, SR, SV, fld_33_1, sz_31, ag_31, und_31, sz_48, q6, fld_48_1, sz_2, ag_2, ENMB]
    refine Mir.use (e := e) ?_ h
    refine Mir.ret fun e h => ?_
    cases h
    simp only [↓reduceIte, reduceCtorEq, nA, nE, nL, and_self, and_true, true_and, SL, ENMB, Tryd.results51]

def tb_offset (a0 : TableTable) (a1 : Int) (a2 : Int) : Option (ApiPos × Int) :=
  bindO (tb_Valid (TableTable.mk a0.Work a0.Lengths)) fun (y101 : Int) =>
  if (y101 != 0) = true then
    some (ApiPos.mk 0 0 0, y101)
  else
    bindO (tb_slot a1) fun (y102 : Int × Int) =>
    bindO (tb_length (TableTable.mk a0.Work a0.Lengths) a2) fun (y103 : Int × Int) =>
    if ((y102.2 != 0) || (y103.2 != 0)) = true then
      some (ApiPos.mk 0 0 0, 4)
    else
      bindO (guardO (decide (0 ≤ y102.1 ∧ y102.1 < 6)) (
          if (y102.1 == 0) = true then
            some a0.Work.e0
          else
            if (y102.1 == 1) = true then
              some a0.Work.e1
            else
              if (y102.1 == 2) = true then
                some a0.Work.e2
              else
                if (y102.1 == 3) = true then
                  some a0.Work.e3
                else
                  if (y102.1 == 4) = true then
                    some a0.Work.e4
                  else
                    some a0.Work.e5)) fun (v104 : ApiPos) =>
      some (ApiPos.mk v104.X v104.Y (IntKind.i64.wrap (v104.Z + y103.1)), 0)
theorem tb_offset_spec {a0 : TableTable} {a1 : Int} {a2 : Int} {y : ApiPos × Int} (h : tb_offset a0 a1 a2 = some y) : Spec gP 34 [.agg [.d (.int .i64 a0.Work.e0.X), .d (.int .i64 a0.Work.e0.Y), .d (.int .i64 a0.Work.e0.Z), .d (.int .i64 a0.Work.e1.X), .d (.int .i64 a0.Work.e1.Y), .d (.int .i64 a0.Work.e1.Z), .d (.int .i64 a0.Work.e2.X), .d (.int .i64 a0.Work.e2.Y), .d (.int .i64 a0.Work.e2.Z), .d (.int .i64 a0.Work.e3.X), .d (.int .i64 a0.Work.e3.Y), .d (.int .i64 a0.Work.e3.Z), .d (.int .i64 a0.Work.e4.X), .d (.int .i64 a0.Work.e4.Y), .d (.int .i64 a0.Work.e4.Z), .d (.int .i64 a0.Work.e5.X), .d (.int .i64 a0.Work.e5.Y), .d (.int .i64 a0.Work.e5.Z), .d (.list (List.map encTableLength a0.Lengths))], .d (.int .i64 a1), .d (.int .i64 a2)] (.tuple [.agg [.d (.int .i64 y.1.X), .d (.int .i64 y.1.Y), .d (.int .i64 y.1.Z)], .d (.int .i64 y.2)]) := by
  refine spec_mir Tryd.func34 rfl (by kernel_rfl) (by kernel_rfl) (fun y : ApiPos × Int => .tuple [.agg [.d (.int .i64 y.1.X), .d (.int .i64 y.1.Y), .d (.int .i64 y.1.Z)], .d (.int .i64 y.2)]) ?_ h
  unfold tb_offset
  simp only [List.replicate, List.length, nS, nA, Tryd.ntmps34, SV]
  refine Mir.seqK (Mir.region fun e h => ?_)
  simp only [↓reduceIte, reduceCtorEq, nA, nS, nM, nE, nL, nT, nB, iT, iN, iE, and_self, SR, SV, zero_23, ENMB]
  refine Mir.use (e := e) ?_ h
  refine Mir.seqK (Mir.seqK (Mir.bind fun y101 hy1 => Mir.region fun e h => ?_))
  simp only [↓reduceIte, reduceCtorEq, nA, nS, nM, nE, nL, nT, nB, iT, iN, iE, and_self, SR, SV, ag_33, sz_33, ENMB]
  refine SpecS.by (tb_Valid_spec hy1) (by simp only [↓reduceIte, reduceCtorEq, nA, nE, nL, and_self, and_true, true_and, SL, ENMB]) ?_
  simp only [↓reduceIte, reduceCtorEq, nA, nS, nM, nE, nL, nT, nB, iT, iN, iE, and_self, SR, SV, ENMB]
  refine Mir.use (e := e) ?_ h
  refine Mir.seqK (Mir.region fun e h => ?_)
  simp only [↓reduceIte, reduceCtorEq, nA, nS, nM, nE, nL, nT, nB, iT, iN, iE, and_self, SR, SV, ENMB]
  refine Mir.use (e := e) ?_ h
  refine Mir.cond rfl (fun hb3 => ?_) (fun hb3 => ?_)
  ·refine Mir.seqK (Mir.region fun e h => ?_)
   simp only [↓reduceIte, reduceCtorEq, nA, nS, nM, nE, nL, nT, nB, iT, iN, iE, and_self, SR, SV, zero_23, pl_23, sz_23, ENMB]
   refine Mir.use (e := e) ?_ h
   refine Mir.ret fun e h => ?_
   cases h
   simp only [↓reduceIte, reduceCtorEq, nA, nE, nL, and_self, and_true, true_and, SL, ENMB, Tryd.results34, ag_23, sz_23]
  ·refine Mir.skip (Mir.toK (Mir.seqK (Mir.bind fun y102 hy4 => Mir.region fun e h => ?_)))
   simp only [↓reduceIte, reduceCtorEq, nA, nS, nM, nE, nL, nT, nB, iT, iN, iE, and_self, SR, SV, ENMB]
   refine SpecS.by (tb_slot_spec hy4) (by simp only [↓reduceIte, reduceCtorEq, nA, nE, nL, and_self, and_true, true_and, SL, ENMB]) ?_
   simp only [↓reduceIte, reduceCtorEq, nA, nS, nM, nE, nL, nT, nB, iT, iN, iE, and_self, SR, SV, ENMB]
   refine Mir.use (e := e) ?_ h
   refine Mir.seqK (Mir.bind fun y103 hy5 => Mir.region fun e h => ?_)
   simp only [↓reduceIte, reduceCtorEq, nA, nS, nM, nE, nL, nT, nB, iT, iN, iE, and_self, SR, SV, ag_33, sz_33, ENMB]
   refine SpecS.by (tb_length_spec hy5) (by simp only [↓reduceIte, reduceCtorEq, nA, nE, nL, and_self, and_true, true_and, SL, ENMB]) ?_
   simp only [↓reduceIte, reduceCtorEq, nA, nS, nM, nE, nL, nT, nB, iT, iN, iE, and_self, SR, SV, ENMB]
   refine Mir.use (e := e) ?_ h
   refine Mir.seqK (Mir.seqK (Mir.joinV [U, U, U, .ptr 0 0, U, U, .ptr 1 0, U, U, .d (.int .i64 y102.1), U, .d (.int .i64 y103.1), U, U, U, U, U, U, U, U, U, U, U, U, U, U, U, U, U, U, U, U, U, U, U, U, .d (.bool ((y102.2 != 0) || (y103.2 != 0))), U, U, U, U, U, U, U, U, U, U, U] ⟨[[.d (.int .i64 a0.Work.e0.X), .d (.int .i64 a0.Work.e0.Y), .d (.int .i64 a0.Work.e0.Z), .d (.int .i64 a0.Work.e1.X), .d (.int .i64 a0.Work.e1.Y), .d (.int .i64 a0.Work.e1.Z), .d (.int .i64 a0.Work.e2.X), .d (.int .i64 a0.Work.e2.Y), .d (.int .i64 a0.Work.e2.Z), .d (.int .i64 a0.Work.e3.X), .d (.int .i64 a0.Work.e3.Y), .d (.int .i64 a0.Work.e3.Z), .d (.int .i64 a0.Work.e4.X), .d (.int .i64 a0.Work.e4.Y), .d (.int .i64 a0.Work.e4.Z), .d (.int .i64 a0.Work.e5.X), .d (.int .i64 a0.Work.e5.Y), .d (.int .i64 a0.Work.e5.Z), .d (.list (List.map encTableLength a0.Lengths))], [.d (.int .i64 0), .d (.int .i64 0), .d (.int .i64 0)]], []⟩ rfl ?_ ?_))
   ·refine SWs.region ?_
    rcases Bool.eq_false_or_eq_true (y102.2 != 0) with hb6 | hb6
    ·simp only [↓reduceIte, reduceCtorEq, nA, nS, nM, nE, nL, nT, nB, iT, iN, iE, and_self, SR, SV, SL, PB, hb6, ENMB]
    ·simp only [↓reduceIte, reduceCtorEq, nA, nS, nM, nE, nL, nT, nB, iT, iN, iE, and_self, SR, SV, SL, PB, hb6, ENMB]
   ·refine Mir.toK (Mir.cond rfl (fun hb8 => ?_) (fun hb8 => ?_))
    ·refine Mir.seqK (Mir.region fun e h => ?_)
     simp only [↓reduceIte, reduceCtorEq, nA, nS, nM, nE, nL, nT, nB, iT, iN, iE, and_self, SR, SV, zero_23, pl_23, sz_23, ENMB]
     refine Mir.use (e := e) ?_ h
     refine Mir.ret fun e h => ?_
     cases h
     simp only [↓reduceIte, reduceCtorEq, nA, nE, nL, and_self, and_true, true_and, SL, ENMB, Tryd.results34, ag_23, sz_23]
    ·refine Mir.skip (Mir.toK (Mir.seqK (Mir.joinO (fun v104 : ApiPos => [U, U, U, U, U, U, .ptr 1 0, U, U, U, U, .d (.int .i64 y103.1), U, .ptr 2 0, U, U, U, U, U, U, U, U, U, U, U, U, U, U, U, U, U, U, U, U, U, U, U, U, U, U, U, U, U, U, U, U, U, U]) (fun v104 : ApiPos => ⟨[[.d (.int .i64 a0.Work.e0.X), .d (.int .i64 a0.Work.e0.Y), .d (.int .i64 a0.Work.e0.Z), .d (.int .i64 a0.Work.e1.X), .d (.int .i64 a0.Work.e1.Y), .d (.int .i64 a0.Work.e1.Z), .d (.int .i64 a0.Work.e2.X), .d (.int .i64 a0.Work.e2.Y), .d (.int .i64 a0.Work.e2.Z), .d (.int .i64 a0.Work.e3.X), .d (.int .i64 a0.Work.e3.Y), .d (.int .i64 a0.Work.e3.Z), .d (.int .i64 a0.Work.e4.X), .d (.int .i64 a0.Work.e4.Y), .d (.int .i64 a0.Work.e4.Z), .d (.int .i64 a0.Work.e5.X), .d (.int .i64 a0.Work.e5.Y), .d (.int .i64 a0.Work.e5.Z), .d (.list (List.map encTableLength a0.Lengths))], [.d (.int .i64 0), .d (.int .i64 0), .d (.int .i64 0)], [.d (.int .i64 v104.X), .d (.int .i64 v104.Y), .d (.int .i64 v104.Z)]], []⟩) (fun _ => rfl) ?_ ?_)))
     ·refine Mir.guard fun qi9 => Mir.ite (fun hb10 => ?_) (fun hb10 => ?_)
      ·refine Mir.region fun e h => ?_
       simp only [↓reduceIte, reduceCtorEq, nA, nS, nM, nE, nL, nT, nB, iT, iN, iE, and_self, SR, SV, fld_33_0, sz_24, und_24, (eq_of_beq hb10), sz_23, ag_23, zero_23, ENMB, hb10]
       cases h
       simp only [↓reduceIte, reduceCtorEq, nA, nE, nL, and_self, and_true, true_and, SL, ENMB, hb10]
      ·refine Mir.ite (fun hb11 => ?_) (fun hb11 => ?_)
       ·refine Mir.region fun e h => ?_
        simp only [↓reduceIte, reduceCtorEq, nA, nS, nM, nE, nL, nT, nB, iT, iN, iE, and_self, SR, SV, fld_33_0, sz_24, und_24, (eq_of_beq hb11), sz_23, ag_23, zero_23, ENMB, hb10, hb11]
        cases h
        simp only [↓reduceIte, reduceCtorEq, nA, nE, nL, and_self, and_true, true_and, SL, ENMB, hb10, hb11]
       ·refine Mir.ite (fun hb12 => ?_) (fun hb12 => ?_)
        ·refine Mir.region fun e h => ?_
         simp only [↓reduceIte, reduceCtorEq, nA, nS, nM, nE, nL, nT, nB, iT, iN, iE, and_self, SR, SV, fld_33_0, sz_24, und_24, (eq_of_beq hb12), sz_23, ag_23, zero_23, ENMB, hb10, hb11, hb12]
         cases h
         simp only [↓reduceIte, reduceCtorEq, nA, nE, nL, and_self, and_true, true_and, SL, ENMB, hb10, hb11, hb12]
        ·refine Mir.ite (fun hb13 => ?_) (fun hb13 => ?_)
         ·refine Mir.region fun e h => ?_
          simp only [↓reduceIte, reduceCtorEq, nA, nS, nM, nE, nL, nT, nB, iT, iN, iE, and_self, SR, SV, fld_33_0, sz_24, und_24, (eq_of_beq hb13), sz_23, ag_23, zero_23, ENMB, hb10, hb11, hb12, hb13]
          cases h
          simp only [↓reduceIte, reduceCtorEq, nA, nE, nL, and_self, and_true, true_and, SL, ENMB, hb10, hb11, hb12, hb13]
         ·refine Mir.ite (fun hb14 => ?_) (fun hb14 => ?_)
          ·refine Mir.region fun e h => ?_
           simp only [↓reduceIte, reduceCtorEq, nA, nS, nM, nE, nL, nT, nB, iT, iN, iE, and_self, SR, SV, fld_33_0, sz_24, und_24, (eq_of_beq hb14), sz_23, ag_23, zero_23, ENMB, hb10, hb11, hb12, hb13, hb14]
           cases h
           simp only [↓reduceIte, reduceCtorEq, nA, nE, nL, and_self, and_true, true_and, SL, ENMB, hb10, hb11, hb12, hb13, hb14]
          ·have hz15 : y102.1 = 5 := by have h0 := of_decide_eq_true qi9; have h1 := ne_of_beq_false hb10; have h2 := ne_of_beq_false hb11; have h3 := ne_of_beq_false hb12; have h4 := ne_of_beq_false hb13; have h5 := ne_of_beq_false hb14; omega
           refine Mir.region fun e h => ?_
           simp only [↓reduceIte, reduceCtorEq, nA, nS, nM, nE, nL, nT, nB, iT, iN, iE, and_self, SR, SV, fld_33_0, sz_24, und_24, hz15, sz_23, ag_23, zero_23, ENMB, hb10, hb11, hb12, hb13, hb14]
           cases h
           simp only [↓reduceIte, reduceCtorEq, nA, nE, nL, and_self, and_true, true_and, SL, ENMB, hb10, hb11, hb12, hb13, hb14]
     ·intro v104
      refine Mir.toK (Mir.seqK (Mir.region fun e h => ?_))
      simp only [↓reduceIte, reduceCtorEq, nA, nS, nM, nE, nL, nT, nB, iT, iN, iE, and_self, SR, SV, fld_23_2, sz_2, ag_2, ENMB]
      refine Mir.use (e := e) ?_ h
      refine Mir.seqK (Mir.region fun e h => ?_)
      simp only [↓reduceIte, reduceCtorEq, nA, nS, nM, nE, nL, nT, nB, iT, iN, iE, and_self, SR, SV, ag_23, sz_23, ENMB]
      refine Mir.use (e := e) ?_ h
      refine Mir.ret fun e h => ?_
      cases h
      simp only [↓reduceIte, reduceCtorEq, nA, nE, nL, and_self, and_true, true_and, SL, ENMB, Tryd.results34, ag_23, sz_23]

def tb_moved (a0 : ApiPos) (a1 : ApiPos) (a2 : Int) : Option (ApiPos × Int) :=
  bindO (tb_far a0) fun (y101 : Bool) =>
  if y101 = true then
    some (ApiPos.mk 0 0 0, 11)
  else
    bindO (tb_far (ApiPos.mk (IntKind.i64.wrap (a0.X + (IntKind.i64.wrap (a2 * a1.X)))) (IntKind.i64.wrap (a0.Y + (IntKind.i64.wrap (a2 * a1.Y)))) (IntKind.i64.wrap (a0.Z + (IntKind.i64.wrap (a2 * a1.Z)))))) fun (y102 : Bool) =>
    if y102 = true then
      some (ApiPos.mk 0 0 0, 11)
    else
      some (ApiPos.mk (IntKind.i64.wrap (a0.X + (IntKind.i64.wrap (a2 * a1.X)))) (IntKind.i64.wrap (a0.Y + (IntKind.i64.wrap (a2 * a1.Y)))) (IntKind.i64.wrap (a0.Z + (IntKind.i64.wrap (a2 * a1.Z)))), 0)
theorem tb_moved_spec {a0 : ApiPos} {a1 : ApiPos} {a2 : Int} {y : ApiPos × Int} (h : tb_moved a0 a1 a2 = some y) : Spec gP 35 [.agg [.d (.int .i64 a0.X), .d (.int .i64 a0.Y), .d (.int .i64 a0.Z)], .agg [.d (.int .i64 a1.X), .d (.int .i64 a1.Y), .d (.int .i64 a1.Z)], .d (.int .i64 a2)] (.tuple [.agg [.d (.int .i64 y.1.X), .d (.int .i64 y.1.Y), .d (.int .i64 y.1.Z)], .d (.int .i64 y.2)]) := by
  refine spec_mir Tryd.func35 rfl (by kernel_rfl) (by kernel_rfl) (fun y : ApiPos × Int => .tuple [.agg [.d (.int .i64 y.1.X), .d (.int .i64 y.1.Y), .d (.int .i64 y.1.Z)], .d (.int .i64 y.2)]) ?_ h
  unfold tb_moved
  simp only [List.replicate, List.length, nS, nA, Tryd.ntmps35, SV]
  refine Mir.seqK (Mir.region fun e h => ?_)
  simp only [↓reduceIte, reduceCtorEq, nA, nS, nM, nE, nL, nT, nB, iT, iN, iE, and_self, SR, SV, zero_23]
  refine Mir.use (e := e) ?_ h
  refine Mir.seqK (Mir.seqK (Mir.bind fun y101 hy1 => Mir.region fun e h => ?_))
  simp only [↓reduceIte, reduceCtorEq, nA, nS, nM, nE, nL, nT, nB, iT, iN, iE, and_self, SR, SV, ag_23, sz_23]
  refine SpecS.by (tb_far_spec hy1) (by simp only [↓reduceIte, reduceCtorEq, nA, nE, nL, and_self, and_true, true_and, SL]) ?_
  simp only [↓reduceIte, reduceCtorEq, nA, nS, nM, nE, nL, nT, nB, iT, iN, iE, and_self, SR, SV]
  refine Mir.use (e := e) ?_ h
  refine Mir.cond rfl (fun hb3 => ?_) (fun hb3 => ?_)
  ·refine Mir.seqK (Mir.region fun e h => ?_)
   simp only [↓reduceIte, reduceCtorEq, nA, nS, nM, nE, nL, nT, nB, iT, iN, iE, and_self, SR, SV, zero_23, pl_23, sz_23]
   refine Mir.use (e := e) ?_ h
   refine Mir.ret fun e h => ?_
   cases h
   simp only [↓reduceIte, reduceCtorEq, nA, nE, nL, and_self, and_true, true_and, SL, Tryd.results35, ag_23, sz_23]
  ·refine Mir.skip (Mir.toK (Mir.seqK (Mir.region fun e h => ?_)))
   simp only [↓reduceIte, reduceCtorEq, nA, nS, nM, nE, nL, nT, nB, iT, iN, iE, and_self, SR, SV, fld_23_0, sz_2, ag_2, fld_23_1, fld_23_2, zero_23, pl_23, sz_23]
   refine Mir.use (e := e) ?_ h
   refine Mir.seqK (Mir.seqK (Mir.bind fun y102 hy4 => Mir.region fun e h => ?_))
   simp only [↓reduceIte, reduceCtorEq, nA, nS, nM, nE, nL, nT, nB, iT, iN, iE, and_self, SR, SV, ag_23, sz_23]
   refine SpecS.by (tb_far_spec hy4) (by simp only [↓reduceIte, reduceCtorEq, nA, nE, nL, and_self, and_true, true_and, SL]) ?_
   simp only [↓reduceIte, reduceCtorEq, nA, nS, nM, nE, nL, nT, nB, iT, iN, iE, and_self, SR, SV]
   refine Mir.use (e := e) ?_ h
   refine Mir.cond rfl (fun hb6 => ?_) (fun hb6 => ?_)
   ·refine Mir.seqK (Mir.region fun e h => ?_)
    simp only [↓reduceIte, reduceCtorEq, nA, nS, nM, nE, nL, nT, nB, iT, iN, iE, and_self, SR, SV, zero_23, pl_23, sz_23]
    refine Mir.use (e := e) ?_ h
    refine Mir.ret fun e h => ?_
    cases h
    simp only [↓reduceIte, reduceCtorEq, nA, nE, nL, and_self, and_true, true_and, SL, Tryd.results35, ag_23, sz_23]
   ·refine Mir.skip (Mir.toK (Mir.seqK (Mir.region fun e h => ?_)))
    simp only [↓reduceIte, reduceCtorEq, nA, nS, nM, nE, nL, nT, nB, iT, iN, iE, and_self, SR, SV, ag_23, sz_23]
    refine Mir.use (e := e) ?_ h
    refine Mir.ret fun e h => ?_
    cases h
    simp only [↓reduceIte, reduceCtorEq, nA, nE, nL, and_self, and_true, true_and, SL, Tryd.results35, ag_23, sz_23]

def tb_Machine (a0 : TableTable) (a1 : Int) (a2 : Int) (a3 : ApiPos) : Option (ApiPos × Int) :=
  bindO (tb_offset (TableTable.mk a0.Work a0.Lengths) a1 a2) fun (y101 : ApiPos × Int) =>
  if (y101.2 != 0) = true then
    some (ApiPos.mk 0 0 0, y101.2)
  else
    bindO (tb_moved a3 y101.1 1) fun (y102 : ApiPos × Int) =>
    some (y102.1, y102.2)
theorem tb_Machine_spec {a0 : TableTable} {a1 : Int} {a2 : Int} {a3 : ApiPos} {y : ApiPos × Int} (h : tb_Machine a0 a1 a2 a3 = some y) : Spec gP 19 [.agg [.d (.int .i64 a0.Work.e0.X), .d (.int .i64 a0.Work.e0.Y), .d (.int .i64 a0.Work.e0.Z), .d (.int .i64 a0.Work.e1.X), .d (.int .i64 a0.Work.e1.Y), .d (.int .i64 a0.Work.e1.Z), .d (.int .i64 a0.Work.e2.X), .d (.int .i64 a0.Work.e2.Y), .d (.int .i64 a0.Work.e2.Z), .d (.int .i64 a0.Work.e3.X), .d (.int .i64 a0.Work.e3.Y), .d (.int .i64 a0.Work.e3.Z), .d (.int .i64 a0.Work.e4.X), .d (.int .i64 a0.Work.e4.Y), .d (.int .i64 a0.Work.e4.Z), .d (.int .i64 a0.Work.e5.X), .d (.int .i64 a0.Work.e5.Y), .d (.int .i64 a0.Work.e5.Z), .d (.list (List.map encTableLength a0.Lengths))], .d (.int .i64 a1), .d (.int .i64 a2), .agg [.d (.int .i64 a3.X), .d (.int .i64 a3.Y), .d (.int .i64 a3.Z)]] (.tuple [.agg [.d (.int .i64 y.1.X), .d (.int .i64 y.1.Y), .d (.int .i64 y.1.Z)], .d (.int .i64 y.2)]) := by
  refine spec_mir Tryd.func19 rfl (by kernel_rfl) (by kernel_rfl) (fun y : ApiPos × Int => .tuple [.agg [.d (.int .i64 y.1.X), .d (.int .i64 y.1.Y), .d (.int .i64 y.1.Z)], .d (.int .i64 y.2)]) ?_ h
  unfold tb_Machine
  simp only [List.replicate, List.length, nS, nA, Tryd.ntmps19, SV]
  refine Mir.seqK (Mir.region fun e h => ?_)
  simp only [↓reduceIte, reduceCtorEq, nA, nS, nM, nE, nL, nT, nB, iT, iN, iE, and_self, SR, SV, zero_23, ENMB]
  refine Mir.use (e := e) ?_ h
  refine Mir.seqK (Mir.bind fun y101 hy1 => Mir.region fun e h => ?_)
  simp only [↓reduceIte, reduceCtorEq, nA, nS, nM, nE, nL, nT, nB, iT, iN, iE, and_self, SR, SV, ag_33, sz_33, ENMB]
  refine SpecS.by (tb_offset_spec hy1) (by simp only [↓reduceIte, reduceCtorEq, nA, nE, nL, and_self, and_true, true_and, SL, ENMB]) ?_
  simp only [↓reduceIte, reduceCtorEq, nA, nS, nM, nE, nL, nT, nB, iT, iN, iE, and_self, SR, SV, zero_23, sz_23, ENMB]
  refine Mir.use (e := e) ?_ h
  refine Mir.seqK (Mir.seqK (Mir.region fun e h => ?_))
  simp only [↓reduceIte, reduceCtorEq, nA, nS, nM, nE, nL, nT, nB, iT, iN, iE, and_self, SR, SV, ENMB]
  refine Mir.use (e := e) ?_ h
  refine Mir.cond rfl (fun hb3 => ?_) (fun hb3 => ?_)
  ·refine Mir.seqK (Mir.region fun e h => ?_)
   simp only [↓reduceIte, reduceCtorEq, nA, nS, nM, nE, nL, nT, nB, iT, iN, iE, and_self, SR, SV, zero_23, pl_23, sz_23, ENMB]
   refine Mir.use (e := e) ?_ h
   refine Mir.ret fun e h => ?_
   cases h
   simp only [↓reduceIte, reduceCtorEq, nA, nE, nL, and_self, and_true, true_and, SL, ENMB, Tryd.results19, ag_23, sz_23]
  ·refine Mir.skip (Mir.toK (Mir.seqK (Mir.bind fun y102 hy4 => Mir.region fun e h => ?_)))
   simp only [↓reduceIte, reduceCtorEq, nA, nS, nM, nE, nL, nT, nB, iT, iN, iE, and_self, SR, SV, ag_23, sz_23, ENMB]
   refine SpecS.by (tb_moved_spec hy4) (by simp only [↓reduceIte, reduceCtorEq, nA, nE, nL, and_self, and_true, true_and, SL, ENMB]) ?_
   simp only [↓reduceIte, reduceCtorEq, nA, nS, nM, nE, nL, nT, nB, iT, iN, iE, and_self, SR, SV, sz_23, ENMB]
   refine Mir.use (e := e) ?_ h
   refine Mir.ret fun e h => ?_
   cases h
   simp only [↓reduceIte, reduceCtorEq, nA, nE, nL, and_self, and_true, true_and, SL, ENMB, Tryd.results19, ag_23, sz_23]

def tb_Work (a0 : TableTable) (a1 : Int) (a2 : Int) (a3 : ApiPos) : Option (ApiPos × Int) :=
  bindO (tb_offset a0 a1 a2) fun (y101 : ApiPos × Int) =>
  if (y101.2 != 0) = true then
    some (ApiPos.mk 0 0 0, y101.2)
  else
    bindO (tb_moved a3 y101.1 (-1)) fun (y102 : ApiPos × Int) =>
    some (y102.1, y102.2)
theorem tb_Work_spec {a0 : TableTable} {a1 : Int} {a2 : Int} {a3 : ApiPos} {y : ApiPos × Int} (h : tb_Work a0 a1 a2 a3 = some y) : Spec gP 21 [.agg [.d (.int .i64 a0.Work.e0.X), .d (.int .i64 a0.Work.e0.Y), .d (.int .i64 a0.Work.e0.Z), .d (.int .i64 a0.Work.e1.X), .d (.int .i64 a0.Work.e1.Y), .d (.int .i64 a0.Work.e1.Z), .d (.int .i64 a0.Work.e2.X), .d (.int .i64 a0.Work.e2.Y), .d (.int .i64 a0.Work.e2.Z), .d (.int .i64 a0.Work.e3.X), .d (.int .i64 a0.Work.e3.Y), .d (.int .i64 a0.Work.e3.Z), .d (.int .i64 a0.Work.e4.X), .d (.int .i64 a0.Work.e4.Y), .d (.int .i64 a0.Work.e4.Z), .d (.int .i64 a0.Work.e5.X), .d (.int .i64 a0.Work.e5.Y), .d (.int .i64 a0.Work.e5.Z), .d (.list (List.map encTableLength a0.Lengths))], .d (.int .i64 a1), .d (.int .i64 a2), .agg [.d (.int .i64 a3.X), .d (.int .i64 a3.Y), .d (.int .i64 a3.Z)]] (.tuple [.agg [.d (.int .i64 y.1.X), .d (.int .i64 y.1.Y), .d (.int .i64 y.1.Z)], .d (.int .i64 y.2)]) := by
  refine spec_mir Tryd.func21 rfl (by kernel_rfl) (by kernel_rfl) (fun y : ApiPos × Int => .tuple [.agg [.d (.int .i64 y.1.X), .d (.int .i64 y.1.Y), .d (.int .i64 y.1.Z)], .d (.int .i64 y.2)]) ?_ h
  unfold tb_Work
  simp only [List.replicate, List.length, nS, nA, Tryd.ntmps21, SV]
  refine Mir.seqK (Mir.region fun e h => ?_)
  simp only [↓reduceIte, reduceCtorEq, nA, nS, nM, nE, nL, nT, nB, iT, iN, iE, and_self, SR, SV, zero_23, ENMB]
  refine Mir.use (e := e) ?_ h
  refine Mir.seqK (Mir.bind fun y101 hy1 => Mir.region fun e h => ?_)
  simp only [↓reduceIte, reduceCtorEq, nA, nS, nM, nE, nL, nT, nB, iT, iN, iE, and_self, SR, SV, ag_33, sz_33, ENMB]
  refine SpecS.by (tb_offset_spec hy1) (by simp only [↓reduceIte, reduceCtorEq, nA, nE, nL, and_self, and_true, true_and, SL, ENMB]) ?_
  simp only [↓reduceIte, reduceCtorEq, nA, nS, nM, nE, nL, nT, nB, iT, iN, iE, and_self, SR, SV, zero_23, sz_23, ENMB]
  refine Mir.use (e := e) ?_ h
  refine Mir.seqK (Mir.seqK (Mir.region fun e h => ?_))
  simp only [↓reduceIte, reduceCtorEq, nA, nS, nM, nE, nL, nT, nB, iT, iN, iE, and_self, SR, SV, ENMB]
  refine Mir.use (e := e) ?_ h
  refine Mir.cond rfl (fun hb3 => ?_) (fun hb3 => ?_)
  ·refine Mir.seqK (Mir.region fun e h => ?_)
   simp only [↓reduceIte, reduceCtorEq, nA, nS, nM, nE, nL, nT, nB, iT, iN, iE, and_self, SR, SV, zero_23, pl_23, sz_23, ENMB]
   refine Mir.use (e := e) ?_ h
   refine Mir.ret fun e h => ?_
   cases h
   simp only [↓reduceIte, reduceCtorEq, nA, nE, nL, and_self, and_true, true_and, SL, ENMB, Tryd.results21, ag_23, sz_23]
  ·refine Mir.skip (Mir.toK (Mir.seqK (Mir.bind fun y102 hy4 => Mir.region fun e h => ?_)))
   simp only [↓reduceIte, reduceCtorEq, nA, nS, nM, nE, nL, nT, nB, iT, iN, iE, and_self, SR, SV, ag_23, sz_23, ENMB]
   refine SpecS.by (tb_moved_spec hy4) (by simp only [↓reduceIte, reduceCtorEq, nA, nE, nL, and_self, and_true, true_and, SL, ENMB]) ?_
   simp only [↓reduceIte, reduceCtorEq, nA, nS, nM, nE, nL, nT, nB, iT, iN, iE, and_self, SR, SV, sz_23, ENMB]
   refine Mir.use (e := e) ?_ h
   refine Mir.ret fun e h => ?_
   cases h
   simp only [↓reduceIte, reduceCtorEq, nA, nE, nL, and_self, and_true, true_and, SL, ENMB, Tryd.results21, ag_23, sz_23]

def r45_far (a0 : Int) : Option Bool :=
  some ((decide (a0 > 10000000)) || (decide (a0 < (-10000000))))
theorem r45_far_spec {a0 : Int} {y : Bool} (h : r45_far a0 = some y) : Spec gP 44 [.d (.int .i64 a0)] (.d (.bool y)) := by
  refine spec_mir Tryd.func44 rfl (by kernel_rfl) (by kernel_rfl) (fun y : Bool => .d (.bool y)) ?_ h
  unfold r45_far
  simp only [List.replicate, List.length, nS, nA, Tryd.ntmps44, SV]
  refine Mir.seqK (Mir.region fun e h => ?_)
  simp only [↓reduceIte, reduceCtorEq, nA, nS, nM, nE, nL, nT, nB, iT, iN, iE, and_self, SR, SV]
  refine Mir.use (e := e) ?_ h
  refine Mir.seqK (Mir.joinV [U, U, .d (.bool ((decide (a0 > 10000000)) || (decide (a0 < (-10000000))))), U, U, U, U, U, U] ⟨[], []⟩ rfl ?_ ?_)
  ·refine SWs.region ?_
   rcases Bool.eq_false_or_eq_true (decide (a0 > 10000000)) with hb1 | hb1
   ·simp only [↓reduceIte, reduceCtorEq, nA, nS, nM, nE, nL, nT, nB, iT, iN, iE, and_self, SR, SV, SL, PB, hb1]
   ·simp only [↓reduceIte, reduceCtorEq, nA, nS, nM, nE, nL, nT, nB, iT, iN, iE, and_self, SR, SV, SL, PB, hb1]
  ·refine Mir.toK (Mir.ret fun e h => ?_)
   cases h
   simp only [↓reduceIte, reduceCtorEq, nA, nE, nL, and_self, and_true, true_and, SL, Tryd.results44]

def r45_out (a0 : ApiPos) : Option Bool :=
  bindO (bindO (r45_far a0.X) fun (y101 : Bool) =>
      if y101 = true then
        some true
      else
        bindO (r45_far a0.Y) fun (y102 : Bool) =>
        if y102 = true then
          some true
        else
          bindO (r45_far a0.Z) fun (y103 : Bool) =>
          some y103) fun (v104 : Bool) =>
  some v104
theorem r45_out_spec {a0 : ApiPos} {y : Bool} (h : r45_out a0 = some y) : Spec gP 27 [.agg [.d (.int .i64 a0.X), .d (.int .i64 a0.Y), .d (.int .i64 a0.Z)]] (.d (.bool y)) := by
  refine spec_mir Tryd.func27 rfl (by kernel_rfl) (by kernel_rfl) (fun y : Bool => .d (.bool y)) ?_ h
  unfold r45_out
  simp only [List.replicate, List.length, nS, nA, Tryd.ntmps27, SV]
  refine Mir.seqK (Mir.region fun e h => ?_)
  simp only [↓reduceIte, reduceCtorEq, nA, nS, nM, nE, nL, nT, nB, iT, iN, iE, and_self, SR, SV]
  refine Mir.use (e := e) ?_ h
  refine Mir.seqK (Mir.joinO (fun v104 : Bool => [U, U, .d (.bool v104), U, U, U, U, U, U, U, U, U, U, U, U, U]) (fun v104 : Bool => ⟨[[.d (.int .i64 a0.X), .d (.int .i64 a0.Y), .d (.int .i64 a0.Z)]], []⟩) (fun _ => rfl) ?_ ?_)
  ·refine Mir.bind fun y101 hy1 => Mir.ite (fun hb2 => ?_) (fun hb2 => ?_)
   ·refine Mir.region fun e h => ?_
    simp only [↓reduceIte, reduceCtorEq, nA, nS, nM, nE, nL, nT, nB, iT, iN, iE, and_self, SR, SV, fld_23_0, sz_2, ag_2, hb2]
    refine SpecS.by (r45_far_spec hy1) (by simp only [↓reduceIte, reduceCtorEq, nA, nE, nL, and_self, and_true, true_and, SL, hb2]) ?_
    simp only [↓reduceIte, reduceCtorEq, nA, nS, nM, nE, nL, nT, nB, iT, iN, iE, and_self, SR, SV, hb2]
    cases h
    simp only [↓reduceIte, reduceCtorEq, nA, nE, nL, and_self, and_true, true_and, SL, hb2]
   ·refine Mir.bind fun y102 hy3 => Mir.ite (fun hb4 => ?_) (fun hb4 => ?_)
    ·refine Mir.region fun e h => ?_
     simp only [↓reduceIte, reduceCtorEq, nA, nS, nM, nE, nL, nT, nB, iT, iN, iE, and_self, SR, SV, fld_23_0, sz_2, ag_2, hb2, hb4]
     refine SpecS.by (r45_far_spec hy1) (by simp only [↓reduceIte, reduceCtorEq, nA, nE, nL, and_self, and_true, true_and, SL, hb2, hb4]) ?_
     simp only [↓reduceIte, reduceCtorEq, nA, nS, nM, nE, nL, nT, nB, iT, iN, iE, and_self, SR, SV, fld_23_1, sz_2, ag_2, hb2, hb4]
     refine SpecS.by (r45_far_spec hy3) (by simp only [↓reduceIte, reduceCtorEq, nA, nE, nL, and_self, and_true, true_and, SL, hb2, hb4]) ?_
     simp only [↓reduceIte, reduceCtorEq, nA, nS, nM, nE, nL, nT, nB, iT, iN, iE, and_self, SR, SV, hb2, hb4]
     cases h
     simp only [↓reduceIte, reduceCtorEq, nA, nE, nL, and_self, and_true, true_and, SL, hb2, hb4]
    ·refine Mir.bind fun y103 hy5 => Mir.region fun e h => ?_
     simp only [↓reduceIte, reduceCtorEq, nA, nS, nM, nE, nL, nT, nB, iT, iN, iE, and_self, SR, SV, fld_23_0, sz_2, ag_2, hb2, hb4]
     refine SpecS.by (r45_far_spec hy1) (by simp only [↓reduceIte, reduceCtorEq, nA, nE, nL, and_self, and_true, true_and, SL, hb2, hb4]) ?_
     simp only [↓reduceIte, reduceCtorEq, nA, nS, nM, nE, nL, nT, nB, iT, iN, iE, and_self, SR, SV, fld_23_1, sz_2, ag_2, hb2, hb4]
     refine SpecS.by (r45_far_spec hy3) (by simp only [↓reduceIte, reduceCtorEq, nA, nE, nL, and_self, and_true, true_and, SL, hb2, hb4]) ?_
     simp only [↓reduceIte, reduceCtorEq, nA, nS, nM, nE, nL, nT, nB, iT, iN, iE, and_self, SR, SV, fld_23_2, sz_2, ag_2, hb2, hb4]
     refine SpecS.by (r45_far_spec hy5) (by simp only [↓reduceIte, reduceCtorEq, nA, nE, nL, and_self, and_true, true_and, SL, hb2, hb4]) ?_
     simp only [↓reduceIte, reduceCtorEq, nA, nS, nM, nE, nL, nT, nB, iT, iN, iE, and_self, SR, SV, hb2, hb4]
     cases h
     simp only [↓reduceIte, reduceCtorEq, nA, nE, nL, and_self, and_true, true_and, SL, hb2, hb4]
  ·intro v104
   refine Mir.toK (Mir.ret fun e h => ?_)
   cases h
   simp only [↓reduceIte, reduceCtorEq, nA, nE, nL, and_self, and_true, true_and, SL, Tryd.results27]

def r45_entry (a0 : R45Length) : Option Bool :=
  some ((decide (a0.Number ≥ 1)) && ((decide (a0.Number ≤ 999)) && ((decide (a0.Length ≥ 0)) && (decide (a0.Length ≤ 10000000)))))
theorem r45_entry_spec {a0 : R45Length} {y : Bool} (h : r45_entry a0 = some y) : Spec gP 28 [.agg [.d (.int .i64 a0.Number), .d (.int .i64 a0.Length)]] (.d (.bool y)) := by
  refine spec_mir Tryd.func28 rfl (by kernel_rfl) (by kernel_rfl) (fun y : Bool => .d (.bool y)) ?_ h
  unfold r45_entry
  simp only [List.replicate, List.length, nS, nA, Tryd.ntmps28, SV]
  refine Mir.seqK (Mir.region fun e h => ?_)
  simp only [↓reduceIte, reduceCtorEq, nA, nS, nM, nE, nL, nT, nB, iT, iN, iE, and_self, SR, SV]
  refine Mir.use (e := e) ?_ h
  refine Mir.seqK (Mir.joinV [U, U, .d (.bool ((decide (a0.Number ≥ 1)) && ((decide (a0.Number ≤ 999)) && ((decide (a0.Length ≥ 0)) && (decide (a0.Length ≤ 10000000)))))), U, U, U, U, U, U, U, U, U, U, U, U, U, U, U, U, U, U] ⟨[[.d (.int .i64 a0.Number), .d (.int .i64 a0.Length)]], []⟩ rfl ?_ ?_)
  ·refine SWs.region ?_
   rcases Bool.eq_false_or_eq_true (decide (a0.Number ≥ 1)) with hb1 | hb1
   ·rcases Bool.eq_false_or_eq_true (decide (a0.Number ≤ 999)) with hb2 | hb2
    ·rcases Bool.eq_false_or_eq_true (decide (a0.Length ≥ 0)) with hb3 | hb3
     ·simp only [↓reduceIte, reduceCtorEq, nA, nS, nM, nE, nL, nT, nB, iT, iN, iE, and_self, SR, SV, SL, PB, fld_61_0, sz_2, ag_2, fld_61_1, hb1, hb2, hb3]
     ·simp only [↓reduceIte, reduceCtorEq, nA, nS, nM, nE, nL, nT, nB, iT, iN, iE, and_self, SR, SV, SL, PB, fld_61_0, sz_2, ag_2, fld_61_1, hb1, hb2, hb3]
    ·simp only [↓reduceIte, reduceCtorEq, nA, nS, nM, nE, nL, nT, nB, iT, iN, iE, and_self, SR, SV, SL, PB, fld_61_0, sz_2, ag_2, hb1, hb2]
   ·simp only [↓reduceIte, reduceCtorEq, nA, nS, nM, nE, nL, nT, nB, iT, iN, iE, and_self, SR, SV, SL, PB, fld_61_0, sz_2, ag_2, hb1]
  ·refine Mir.toK (Mir.ret fun e h => ?_)
   cases h
   simp only [↓reduceIte, reduceCtorEq, nA, nE, nL, and_self, and_true, true_and, SL, Tryd.results28]

def r45_Valid (a0 : R45Table) : Option Int :=
  bindX (bindO (r45_out a0.Work.e0) fun (y115 : Bool) =>
      if y115 = true then
        some (.ret 1)
      else
        bindO (r45_out a0.Work.e1) fun (y117 : Bool) =>
        if y117 = true then
          some (.ret 1)
        else
          bindO (r45_out a0.Work.e2) fun (y119 : Bool) =>
          if y119 = true then
            some (.ret 1)
          else
            bindO (r45_out a0.Work.e3) fun (y121 : Bool) =>
            if y121 = true then
              some (.ret 1)
            else
              bindO (r45_out a0.Work.e4) fun (y123 : Bool) =>
              if y123 = true then
                some (.ret 1)
              else
                bindO (r45_out a0.Work.e5) fun (y125 : Bool) =>
                if y125 = true then
                  some (.ret 1)
                else
                  some (.go ())) fun (v113 : Unit) =>
  bindX (guardO (okIdx a0.Lengths) (
      rangeX (fun (i190 : Nat) (e192 : R45Length) (v191 : Unit) =>
        bindO (bindO (r45_entry e192) fun (y196 : Bool) =>
            if y196 = true then
              if (decide ((i190 : Int) > 0)) = true then
                bindO (gt a0.Lengths (IntKind.i64.wrap ((i190 : Int) - 1))) fun (e197 : R45Length) =>
                some (decide (e192.Number ≤ e197.Number))
              else
                some false
            else
              some true) fun (v198 : Bool) =>
        if v198 = true then
          some (.ret (.ret 1))
        else
          some (.go ())) (fun (v191 : Unit) => some (.go ())) a0.Lengths 0 ())) fun (v162 : Unit) =>
  some 0
set_option maxHeartbeats 8000000 in
theorem r45_Valid_spec {a0 : R45Table} {y : Int} (h : r45_Valid a0 = some y) : Spec gP 11 [.agg [.d (.int .i64 a0.Work.e0.X), .d (.int .i64 a0.Work.e0.Y), .d (.int .i64 a0.Work.e0.Z), .d (.int .i64 a0.Work.e1.X), .d (.int .i64 a0.Work.e1.Y), .d (.int .i64 a0.Work.e1.Z), .d (.int .i64 a0.Work.e2.X), .d (.int .i64 a0.Work.e2.Y), .d (.int .i64 a0.Work.e2.Z), .d (.int .i64 a0.Work.e3.X), .d (.int .i64 a0.Work.e3.Y), .d (.int .i64 a0.Work.e3.Z), .d (.int .i64 a0.Work.e4.X), .d (.int .i64 a0.Work.e4.Y), .d (.int .i64 a0.Work.e4.Z), .d (.int .i64 a0.Work.e5.X), .d (.int .i64 a0.Work.e5.Y), .d (.int .i64 a0.Work.e5.Z), .d (.list (List.map encR45Length a0.Lengths))]] (.d (.int .i64 y)) := by
  refine spec_mir Tryd.func11 rfl (by kernel_rfl) (by kernel_rfl) (fun y : Int => .d (.int .i64 y)) ?_ h
  unfold r45_Valid
  simp only [List.replicate, List.length, nS, nA, Tryd.ntmps11, SV]
  refine Mir.seqK (Mir.region fun e h => ?_)
  simp only [↓reduceIte, reduceCtorEq, nA, nS, nM, nE, nL, nT, nB, iT, iN, iE, and_self, SR, SV, ENMB]
  refine Mir.use (e := e) ?_ h
  refine Mir.seqK (Mir.seqK (Mir.region fun e h => ?_))
  simp only [↓reduceIte, reduceCtorEq, nA, nS, nM, nE, nL, nT, nB, iT, iN, iE, and_self, SR, SV, ENMB]
  refine Mir.use (e := e) ?_ h
  refine Mir.join (fun v113 : Unit => [U, .ptr 0 0, U, U, U, U, U, U, U, U, U, U, U, U, U, U, U, U, U, U, U, U, U, U, U, U, U, U, U, U, U, U, U, U, U, U, U, U, U, U, U, U, U, U, U, U, U, U]) (fun v113 : Unit => ⟨[[.d (.int .i64 a0.Work.e0.X), .d (.int .i64 a0.Work.e0.Y), .d (.int .i64 a0.Work.e0.Z), .d (.int .i64 a0.Work.e1.X), .d (.int .i64 a0.Work.e1.Y), .d (.int .i64 a0.Work.e1.Z), .d (.int .i64 a0.Work.e2.X), .d (.int .i64 a0.Work.e2.Y), .d (.int .i64 a0.Work.e2.Z), .d (.int .i64 a0.Work.e3.X), .d (.int .i64 a0.Work.e3.Y), .d (.int .i64 a0.Work.e3.Z), .d (.int .i64 a0.Work.e4.X), .d (.int .i64 a0.Work.e4.Y), .d (.int .i64 a0.Work.e4.Z), .d (.int .i64 a0.Work.e5.X), .d (.int .i64 a0.Work.e5.Y), .d (.int .i64 a0.Work.e5.Z), .d (.list (List.map encR45Length a0.Lengths))]], []⟩) (fun _ => rfl) ?_ ?_
  ·refine Mir.block (Mir.loopR 15 (Mir.seqK (Mir.seqK (Mir.region fun e h => ?_))))
   simp only [↓reduceIte, reduceCtorEq, nA, nS, nM, nE, nL, nT, nB, iT, iN, iE, and_self, SR, SV, ENMB]
   refine Mir.use (e := e) ?_ h
   refine Mir.condT rfl (Mir.skip (Mir.toK (Mir.seqK (Mir.block (Mir.seqK (Mir.bind fun y115 hy33 => Mir.region fun e h => ?_))))))
   simp only [↓reduceIte, reduceCtorEq, nA, nS, nM, nE, nL, nT, nB, iT, iN, iE, and_self, SR, SV, fld_27_0, sz_24, und_24, sz_23, ag_23, ENMB]
   refine SpecS.by (r45_out_spec hy33) (by simp only [↓reduceIte, reduceCtorEq, nA, nE, nL, and_self, and_true, true_and, SL, ENMB]) ?_
   simp only [↓reduceIte, reduceCtorEq, nA, nS, nM, nE, nL, nT, nB, iT, iN, iE, and_self, SR, SV, ENMB]
   refine Mir.use (e := e) ?_ h
   refine Mir.cond rfl (fun hb35 => ?_) (fun hb35 => ?_)
   ·refine Mir.seqK (Mir.region fun e h => ?_)
    simp only [↓reduceIte, reduceCtorEq, nA, nS, nM, nE, nL, nT, nB, iT, iN, iE, and_self, SR, SV, ENMB]
    refine Mir.use (e := e) ?_ h
    refine Mir.ret fun e h => ?_
    cases h
    simp only [↓reduceIte, reduceCtorEq, nA, nE, nL, and_self, and_true, true_and, SL, ENMB, Tryd.results11]
   ·refine Mir.skip (Mir.toB (Mir.toK (Mir.region fun e h => ?_)))
    simp only [↓reduceIte, reduceCtorEq, nA, nS, nM, nE, nL, nT, nB, iT, iN, iE, and_self, SR, SV, (nr rfl : IntKind.i64.wrap (0 + 1) = 1), ENMB]
    refine Mir.useN (e := e) ?_ h
    refine Mir.seqK (Mir.seqK (Mir.region fun e h => ?_))
    simp only [↓reduceIte, reduceCtorEq, nA, nS, nM, nE, nL, nT, nB, iT, iN, iE, and_self, SR, SV, ENMB]
    refine Mir.use (e := e) ?_ h
    refine Mir.condT rfl (Mir.skip (Mir.toK (Mir.seqK (Mir.block (Mir.seqK (Mir.bind fun y117 hy38 => Mir.region fun e h => ?_))))))
    simp only [↓reduceIte, reduceCtorEq, nA, nS, nM, nE, nL, nT, nB, iT, iN, iE, and_self, SR, SV, fld_27_0, sz_24, und_24, sz_23, ag_23, ENMB]
    refine SpecS.by (r45_out_spec hy38) (by simp only [↓reduceIte, reduceCtorEq, nA, nE, nL, and_self, and_true, true_and, SL, ENMB]) ?_
    simp only [↓reduceIte, reduceCtorEq, nA, nS, nM, nE, nL, nT, nB, iT, iN, iE, and_self, SR, SV, ENMB]
    refine Mir.use (e := e) ?_ h
    refine Mir.cond rfl (fun hb40 => ?_) (fun hb40 => ?_)
    ·refine Mir.seqK (Mir.region fun e h => ?_)
     simp only [↓reduceIte, reduceCtorEq, nA, nS, nM, nE, nL, nT, nB, iT, iN, iE, and_self, SR, SV, ENMB]
     refine Mir.use (e := e) ?_ h
     refine Mir.ret fun e h => ?_
     cases h
     simp only [↓reduceIte, reduceCtorEq, nA, nE, nL, and_self, and_true, true_and, SL, ENMB, Tryd.results11]
    ·refine Mir.skip (Mir.toB (Mir.toK (Mir.region fun e h => ?_)))
     simp only [↓reduceIte, reduceCtorEq, nA, nS, nM, nE, nL, nT, nB, iT, iN, iE, and_self, SR, SV, (nr rfl : IntKind.i64.wrap (1 + 1) = 2), ENMB]
     refine Mir.useN (e := e) ?_ h
     refine Mir.seqK (Mir.seqK (Mir.region fun e h => ?_))
     simp only [↓reduceIte, reduceCtorEq, nA, nS, nM, nE, nL, nT, nB, iT, iN, iE, and_self, SR, SV, ENMB]
     refine Mir.use (e := e) ?_ h
     refine Mir.condT rfl (Mir.skip (Mir.toK (Mir.seqK (Mir.block (Mir.seqK (Mir.bind fun y119 hy43 => Mir.region fun e h => ?_))))))
     simp only [↓reduceIte, reduceCtorEq, nA, nS, nM, nE, nL, nT, nB, iT, iN, iE, and_self, SR, SV, fld_27_0, sz_24, und_24, sz_23, ag_23, ENMB]
     refine SpecS.by (r45_out_spec hy43) (by simp only [↓reduceIte, reduceCtorEq, nA, nE, nL, and_self, and_true, true_and, SL, ENMB]) ?_
     simp only [↓reduceIte, reduceCtorEq, nA, nS, nM, nE, nL, nT, nB, iT, iN, iE, and_self, SR, SV, ENMB]
     refine Mir.use (e := e) ?_ h
     refine Mir.cond rfl (fun hb45 => ?_) (fun hb45 => ?_)
     ·refine Mir.seqK (Mir.region fun e h => ?_)
      simp only [↓reduceIte, reduceCtorEq, nA, nS, nM, nE, nL, nT, nB, iT, iN, iE, and_self, SR, SV, ENMB]
      refine Mir.use (e := e) ?_ h
      refine Mir.ret fun e h => ?_
      cases h
      simp only [↓reduceIte, reduceCtorEq, nA, nE, nL, and_self, and_true, true_and, SL, ENMB, Tryd.results11]
     ·refine Mir.skip (Mir.toB (Mir.toK (Mir.region fun e h => ?_)))
      simp only [↓reduceIte, reduceCtorEq, nA, nS, nM, nE, nL, nT, nB, iT, iN, iE, and_self, SR, SV, (nr rfl : IntKind.i64.wrap (2 + 1) = 3), ENMB]
      refine Mir.useN (e := e) ?_ h
      refine Mir.seqK (Mir.seqK (Mir.region fun e h => ?_))
      simp only [↓reduceIte, reduceCtorEq, nA, nS, nM, nE, nL, nT, nB, iT, iN, iE, and_self, SR, SV, ENMB]
      refine Mir.use (e := e) ?_ h
      refine Mir.condT rfl (Mir.skip (Mir.toK (Mir.seqK (Mir.block (Mir.seqK (Mir.bind fun y121 hy48 => Mir.region fun e h => ?_))))))
      simp only [↓reduceIte, reduceCtorEq, nA, nS, nM, nE, nL, nT, nB, iT, iN, iE, and_self, SR, SV, fld_27_0, sz_24, und_24, sz_23, ag_23, ENMB]
      refine SpecS.by (r45_out_spec hy48) (by simp only [↓reduceIte, reduceCtorEq, nA, nE, nL, and_self, and_true, true_and, SL, ENMB]) ?_
      simp only [↓reduceIte, reduceCtorEq, nA, nS, nM, nE, nL, nT, nB, iT, iN, iE, and_self, SR, SV, ENMB]
      refine Mir.use (e := e) ?_ h
      refine Mir.cond rfl (fun hb50 => ?_) (fun hb50 => ?_)
      ·refine Mir.seqK (Mir.region fun e h => ?_)
       simp only [↓reduceIte, reduceCtorEq, nA, nS, nM, nE, nL, nT, nB, iT, iN, iE, and_self, SR, SV, ENMB]
       refine Mir.use (e := e) ?_ h
       refine Mir.ret fun e h => ?_
       cases h
       simp only [↓reduceIte, reduceCtorEq, nA, nE, nL, and_self, and_true, true_and, SL, ENMB, Tryd.results11]
      ·refine Mir.skip (Mir.toB (Mir.toK (Mir.region fun e h => ?_)))
       simp only [↓reduceIte, reduceCtorEq, nA, nS, nM, nE, nL, nT, nB, iT, iN, iE, and_self, SR, SV, (nr rfl : IntKind.i64.wrap (3 + 1) = 4), ENMB]
       refine Mir.useN (e := e) ?_ h
       refine Mir.seqK (Mir.seqK (Mir.region fun e h => ?_))
       simp only [↓reduceIte, reduceCtorEq, nA, nS, nM, nE, nL, nT, nB, iT, iN, iE, and_self, SR, SV, ENMB]
       refine Mir.use (e := e) ?_ h
       refine Mir.condT rfl (Mir.skip (Mir.toK (Mir.seqK (Mir.block (Mir.seqK (Mir.bind fun y123 hy53 => Mir.region fun e h => ?_))))))
       simp only [↓reduceIte, reduceCtorEq, nA, nS, nM, nE, nL, nT, nB, iT, iN, iE, and_self, SR, SV, fld_27_0, sz_24, und_24, sz_23, ag_23, ENMB]
       refine SpecS.by (r45_out_spec hy53) (by simp only [↓reduceIte, reduceCtorEq, nA, nE, nL, and_self, and_true, true_and, SL, ENMB]) ?_
       simp only [↓reduceIte, reduceCtorEq, nA, nS, nM, nE, nL, nT, nB, iT, iN, iE, and_self, SR, SV, ENMB]
       refine Mir.use (e := e) ?_ h
       refine Mir.cond rfl (fun hb55 => ?_) (fun hb55 => ?_)
       ·refine Mir.seqK (Mir.region fun e h => ?_)
        simp only [↓reduceIte, reduceCtorEq, nA, nS, nM, nE, nL, nT, nB, iT, iN, iE, and_self, SR, SV, ENMB]
        refine Mir.use (e := e) ?_ h
        refine Mir.ret fun e h => ?_
        cases h
        simp only [↓reduceIte, reduceCtorEq, nA, nE, nL, and_self, and_true, true_and, SL, ENMB, Tryd.results11]
       ·refine Mir.skip (Mir.toB (Mir.toK (Mir.region fun e h => ?_)))
        simp only [↓reduceIte, reduceCtorEq, nA, nS, nM, nE, nL, nT, nB, iT, iN, iE, and_self, SR, SV, (nr rfl : IntKind.i64.wrap (4 + 1) = 5), ENMB]
        refine Mir.useN (e := e) ?_ h
        refine Mir.seqK (Mir.seqK (Mir.region fun e h => ?_))
        simp only [↓reduceIte, reduceCtorEq, nA, nS, nM, nE, nL, nT, nB, iT, iN, iE, and_self, SR, SV, ENMB]
        refine Mir.use (e := e) ?_ h
        refine Mir.condT rfl (Mir.skip (Mir.toK (Mir.seqK (Mir.block (Mir.seqK (Mir.bind fun y125 hy58 => Mir.region fun e h => ?_))))))
        simp only [↓reduceIte, reduceCtorEq, nA, nS, nM, nE, nL, nT, nB, iT, iN, iE, and_self, SR, SV, fld_27_0, sz_24, und_24, sz_23, ag_23, ENMB]
        refine SpecS.by (r45_out_spec hy58) (by simp only [↓reduceIte, reduceCtorEq, nA, nE, nL, and_self, and_true, true_and, SL, ENMB]) ?_
        simp only [↓reduceIte, reduceCtorEq, nA, nS, nM, nE, nL, nT, nB, iT, iN, iE, and_self, SR, SV, ENMB]
        refine Mir.use (e := e) ?_ h
        refine Mir.cond rfl (fun hb60 => ?_) (fun hb60 => ?_)
        ·refine Mir.seqK (Mir.region fun e h => ?_)
         simp only [↓reduceIte, reduceCtorEq, nA, nS, nM, nE, nL, nT, nB, iT, iN, iE, and_self, SR, SV, ENMB]
         refine Mir.use (e := e) ?_ h
         refine Mir.ret fun e h => ?_
         cases h
         simp only [↓reduceIte, reduceCtorEq, nA, nE, nL, and_self, and_true, true_and, SL, ENMB, Tryd.results11]
        ·refine Mir.skip (Mir.toB (Mir.toK (Mir.region fun e h => ?_)))
         simp only [↓reduceIte, reduceCtorEq, nA, nS, nM, nE, nL, nT, nB, iT, iN, iE, and_self, SR, SV, (nr rfl : IntKind.i64.wrap (5 + 1) = 6), ENMB]
         refine Mir.useN (e := e) ?_ h
         refine Mir.seqK (Mir.seqK (Mir.region fun e h => ?_))
         simp only [↓reduceIte, reduceCtorEq, nA, nS, nM, nE, nL, nT, nB, iT, iN, iE, and_self, SR, SV, ENMB]
         refine Mir.use (e := e) ?_ h
         refine Mir.condF rfl (Mir.exit fun e h => ?_)
         cases h
         simp only [↓reduceIte, reduceCtorEq, nA, nE, nL, and_self, and_true, true_and, SL, ENMB, Tryd.results11]
  ·intro v113
   refine Mir.toK (Mir.seqK (Mir.seqK (Mir.region fun e h => ?_)))
   simp only [↓reduceIte, reduceCtorEq, nA, nS, nM, nE, nL, nT, nB, iT, iN, iE, and_self, SR, SV, ENMB]
   refine Mir.use (e := e) ?_ h
   refine Mir.join (fun v162 : Unit => [U, U, U, U, U, U, U, U, U, U, U, U, U, U, U, U, U, U, U, U, U, U, U, U, U, U, U, U, U, U, U, U, U, U, U, U, U, U, U, U, U, U, U, U, U, U, U, U]) (fun v162 : Unit => ⟨[[.d (.int .i64 a0.Work.e0.X), .d (.int .i64 a0.Work.e0.Y), .d (.int .i64 a0.Work.e0.Z), .d (.int .i64 a0.Work.e1.X), .d (.int .i64 a0.Work.e1.Y), .d (.int .i64 a0.Work.e1.Z), .d (.int .i64 a0.Work.e2.X), .d (.int .i64 a0.Work.e2.Y), .d (.int .i64 a0.Work.e2.Z), .d (.int .i64 a0.Work.e3.X), .d (.int .i64 a0.Work.e3.Y), .d (.int .i64 a0.Work.e3.Z), .d (.int .i64 a0.Work.e4.X), .d (.int .i64 a0.Work.e4.Y), .d (.int .i64 a0.Work.e4.Z), .d (.int .i64 a0.Work.e5.X), .d (.int .i64 a0.Work.e5.Y), .d (.int .i64 a0.Work.e5.Z), .d (.list (List.map encR45Length a0.Lengths))]], []⟩) (fun _ => rfl) ?_ ?_
   ·refine Mir.block (Mir.guard fun qg159 => Mir.range (fun (i190 : Nat) (v191 : Unit) => [U, .ptr 0 0, U, U, .d (.int .i64 (i190 : Int)), U, U, U, U, U, U, U, U, U, U, U, U, U, U, U, U, U, U, U, U, U, U, U, U, U, U, U, U, U, U, U, U, U, U, U, U, U, U, U, U, U, U, U]) (fun (i190 : Nat) (v191 : Unit) => ⟨[[.d (.int .i64 a0.Work.e0.X), .d (.int .i64 a0.Work.e0.Y), .d (.int .i64 a0.Work.e0.Z), .d (.int .i64 a0.Work.e1.X), .d (.int .i64 a0.Work.e1.Y), .d (.int .i64 a0.Work.e1.Z), .d (.int .i64 a0.Work.e2.X), .d (.int .i64 a0.Work.e2.Y), .d (.int .i64 a0.Work.e2.Z), .d (.int .i64 a0.Work.e3.X), .d (.int .i64 a0.Work.e3.Y), .d (.int .i64 a0.Work.e3.Z), .d (.int .i64 a0.Work.e4.X), .d (.int .i64 a0.Work.e4.Y), .d (.int .i64 a0.Work.e4.Z), .d (.int .i64 a0.Work.e5.X), .d (.int .i64 a0.Work.e5.Y), .d (.int .i64 a0.Work.e5.Z), .d (.list (List.map encR45Length a0.Lengths))]], []⟩) qg159 (fun _ _ => rfl) (by simp only [↓reduceIte, reduceCtorEq, nA, nE, nL, and_self, and_true, true_and, SL, ENMB, (nr rfl : ((0 : Nat) : Int) = 0)]) (by simp only [↓reduceIte, reduceCtorEq, nA, nE, nL, and_self, and_true, true_and, SL, ENMB, (nr rfl : ((0 : Nat) : Int) = 0)]) ?_ ?_)
    ·intro i190 e192 v191 qr157
     refine Mir.seqK (Mir.seqK (Mir.region fun e h => ?_))
     simp only [↓reduceIte, reduceCtorEq, nA, nS, nM, nE, nL, nT, nB, iT, iN, iE, and_self, SR, SV, fld_27_1, sz_25, ag_25, und_25, qr157, ENMB]
     refine Mir.use (e := e) ?_ h
     refine Mir.condT rfl (Mir.skip (Mir.toK (Mir.seqK (Mir.block (Mir.seqK (Mir.joinO (fun v198 : Bool => [U, .ptr 0 0, U, U, .d (.int .i64 (i190 : Int)), U, U, U, U, U, U, U, U, U, U, U, U, U, U, U, U, U, U, U, U, U, U, U, U, U, U, U, U, U, U, U, U, U, U, U, U, U, U, U, U, U, U, .d (.bool v198)]) (fun v198 : Bool => ⟨[[.d (.int .i64 a0.Work.e0.X), .d (.int .i64 a0.Work.e0.Y), .d (.int .i64 a0.Work.e0.Z), .d (.int .i64 a0.Work.e1.X), .d (.int .i64 a0.Work.e1.Y), .d (.int .i64 a0.Work.e1.Z), .d (.int .i64 a0.Work.e2.X), .d (.int .i64 a0.Work.e2.Y), .d (.int .i64 a0.Work.e2.Z), .d (.int .i64 a0.Work.e3.X), .d (.int .i64 a0.Work.e3.Y), .d (.int .i64 a0.Work.e3.Z), .d (.int .i64 a0.Work.e4.X), .d (.int .i64 a0.Work.e4.Y), .d (.int .i64 a0.Work.e4.Z), .d (.int .i64 a0.Work.e5.X), .d (.int .i64 a0.Work.e5.Y), .d (.int .i64 a0.Work.e5.Z), .d (.list (List.map encR45Length a0.Lengths))]], []⟩) (fun _ => rfl) ?_ ?_))))))
     ·refine Mir.bind fun y196 hy165 => Mir.ite (fun hb166 => ?_) (fun hb166 => ?_)
      ·refine Mir.ite (fun hb167 => ?_) (fun hb167 => ?_)
       ·refine Mir.bind fun e197 q168 => ?_
        replace q168 := gt_ok q168
        refine Mir.regionD [] (by kernel_rfl) fun e h => ?_
        simp only [↓reduceIte, reduceCtorEq, nA, nS, nM, nE, nL, nT, nB, iT, iN, iE, and_self, SR, SV, sepL_nil, sepL_cons, sepV_ne, sepV_d, sepV_i, true_and, Bool.and_self, fld_27_1, sz_25, ag_25, und_25, sz_61, qr157, Int.toNat_natCast, ag_61, ENMB, hb166, hb167]
        refine Spec.by (r45_entry_spec hy165) (by simp only [↓reduceIte, reduceCtorEq, nA, nE, nL, and_self, and_true, true_and, SL, ENMB, hb166, hb167]) ?_
        simp only [↓reduceIte, reduceCtorEq, nA, nS, nM, nE, nL, nT, nB, iT, iN, iE, and_self, SR, SV, sepL_nil, sepL_cons, sepV_ne, sepV_d, sepV_i, true_and, Bool.and_self, fld_27_1, sz_25, ag_25, und_25, sz_61, qr157, Int.toNat_natCast, fld_61_0, sz_2, ag_2, q168, ENMB, hb166, hb167]
        cases h
        simp only [↓reduceIte, reduceCtorEq, nA, nE, nL, and_self, and_true, true_and, SL, ENMB, hb166, hb167]
       ·refine Mir.regionD [] (by kernel_rfl) fun e h => ?_
        simp only [↓reduceIte, reduceCtorEq, nA, nS, nM, nE, nL, nT, nB, iT, iN, iE, and_self, SR, SV, sepL_nil, sepL_cons, sepV_ne, sepV_d, sepV_i, true_and, Bool.and_self, fld_27_1, sz_25, ag_25, und_25, sz_61, qr157, Int.toNat_natCast, ag_61, ENMB, hb166, hb167]
        refine Spec.by (r45_entry_spec hy165) (by simp only [↓reduceIte, reduceCtorEq, nA, nE, nL, and_self, and_true, true_and, SL, ENMB, hb166, hb167]) ?_
        simp only [↓reduceIte, reduceCtorEq, nA, nS, nM, nE, nL, nT, nB, iT, iN, iE, and_self, SR, SV, sepL_nil, sepL_cons, sepV_ne, sepV_d, sepV_i, true_and, Bool.and_self, ENMB, hb166, hb167]
        cases h
        simp only [↓reduceIte, reduceCtorEq, nA, nE, nL, and_self, and_true, true_and, SL, ENMB, hb166, hb167]
      ·refine Mir.regionD [] (by kernel_rfl) fun e h => ?_
       simp only [↓reduceIte, reduceCtorEq, nA, nS, nM, nE, nL, nT, nB, iT, iN, iE, and_self, SR, SV, sepL_nil, sepL_cons, sepV_ne, sepV_d, sepV_i, true_and, Bool.and_self, fld_27_1, sz_25, ag_25, und_25, sz_61, qr157, Int.toNat_natCast, ag_61, ENMB, hb166]
       refine Spec.by (r45_entry_spec hy165) (by simp only [↓reduceIte, reduceCtorEq, nA, nE, nL, and_self, and_true, true_and, SL, ENMB, hb166]) ?_
       simp only [↓reduceIte, reduceCtorEq, nA, nS, nM, nE, nL, nT, nB, iT, iN, iE, and_self, SR, SV, sepL_nil, sepL_cons, sepV_ne, sepV_d, sepV_i, true_and, Bool.and_self, ENMB, hb166]
       cases h
       simp only [↓reduceIte, reduceCtorEq, nA, nE, nL, and_self, and_true, true_and, SL, ENMB, hb166]
     ·intro v198
      refine Mir.toK (Mir.cond rfl (fun hb170 => ?_) (fun hb170 => ?_))
      ·refine Mir.seqK (Mir.region fun e h => ?_)
       simp only [↓reduceIte, reduceCtorEq, nA, nS, nM, nE, nL, nT, nB, iT, iN, iE, and_self, SR, SV, ENMB]
       refine Mir.use (e := e) ?_ h
       refine Mir.ret fun e h => ?_
       cases h
       simp only [↓reduceIte, reduceCtorEq, nA, nE, nL, and_self, and_true, true_and, SL, ENMB, Tryd.results11]
      ·refine Mir.skip (Mir.toB (Mir.toK (Mir.region fun e h => ?_)))
       simp only [↓reduceIte, reduceCtorEq, nA, nS, nM, nE, nL, nT, nB, iT, iN, iE, and_self, SR, SV, ENMB]
       cases h
       simp only [↓reduceIte, reduceCtorEq, nA, nE, nL, and_self, and_true, true_and, SL, ENMB, Tryd.results11, qr157]
    ·intro v191 qd158
     refine Mir.seqK (Mir.seqK (Mir.region fun e h => ?_))
     simp only [↓reduceIte, reduceCtorEq, nA, nS, nM, nE, nL, nT, nB, iT, iN, iE, and_self, SR, SV, fld_27_1, sz_25, ag_25, und_25, qd158, ENMB]
     refine Mir.use (e := e) ?_ h
     refine Mir.condF rfl (Mir.exit fun e h => ?_)
     cases h
     simp only [↓reduceIte, reduceCtorEq, nA, nE, nL, and_self, and_true, true_and, SL, ENMB, Tryd.results11]
   ·intro v162
    refine Mir.toK (Mir.seqK (Mir.region fun e h => ?_))
    simp only [↓reduceIte, reduceCtorEq, nA, nS, nM, nE, nL, nT, nB, iT, iN, iE, and_self, SR, SV, ENMB]
    refine Mir.use (e := e) ?_ h
    refine Mir.ret fun e h => ?_
    cases h
    simp only [↓reduceIte, reduceCtorEq, nA, nE, nL, and_self, and_true, true_and, SL, ENMB, Tryd.results11]

def r45_index (a0 : Int) : Option Int :=
  if ((decide (a0 < 54000)) || ((decide (a0 > 59000)) || ((Int.tmod a0 1000) != 0))) = true then
    some (-1)
  else
    some (IntKind.i64.wrap ((IntKind.i64.wrap (Int.tdiv a0 1000)) - 54))
theorem r45_index_spec {a0 : Int} {y : Int} (h : r45_index a0 = some y) : Spec gP 31 [.d (.int .i64 a0)] (.d (.int .i64 y)) := by
  refine spec_mir Tryd.func31 rfl (by kernel_rfl) (by kernel_rfl) (fun y : Int => .d (.int .i64 y)) ?_ h
  unfold r45_index
  simp only [List.replicate, List.length, nS, nA, Tryd.ntmps31, SV]
  refine Mir.seqK (Mir.region fun e h => ?_)
  simp only [↓reduceIte, reduceCtorEq, nA, nS, nM, nE, nL, nT, nB, iT, iN, iE, and_self, SR, SV]
  refine Mir.use (e := e) ?_ h
  refine Mir.seqK (Mir.seqK (Mir.joinV [.d (.int .i64 a0), U, U, U, U, U, U, U, U, U, U, U, U, .d (.bool ((decide (a0 < 54000)) || ((decide (a0 > 59000)) || ((Int.tmod a0 1000) != 0)))), U, U, U] ⟨[], []⟩ rfl ?_ ?_))
  ·refine SWs.region ?_
   rcases Bool.eq_false_or_eq_true (decide (a0 < 54000)) with hb1 | hb1
   ·simp only [↓reduceIte, reduceCtorEq, nA, nS, nM, nE, nL, nT, nB, iT, iN, iE, and_self, SR, SV, SL, PB, hb1]
   ·rcases Bool.eq_false_or_eq_true (decide (a0 > 59000)) with hb2 | hb2
    ·simp only [↓reduceIte, reduceCtorEq, nA, nS, nM, nE, nL, nT, nB, iT, iN, iE, and_self, SR, SV, SL, PB, hb1, hb2]
    ·simp only [↓reduceIte, reduceCtorEq, nA, nS, nM, nE, nL, nT, nB, iT, iN, iE, and_self, SR, SV, SL, PB, hb1, hb2]
  ·refine Mir.toK (Mir.cond rfl (fun hb4 => ?_) (fun hb4 => ?_))
   ·refine Mir.seqK (Mir.region fun e h => ?_)
    simp only [↓reduceIte, reduceCtorEq, nA, nS, nM, nE, nL, nT, nB, iT, iN, iE, and_self, SR, SV]
    refine Mir.use (e := e) ?_ h
    refine Mir.ret fun e h => ?_
    cases h
    simp only [↓reduceIte, reduceCtorEq, nA, nE, nL, and_self, and_true, true_and, SL, Tryd.results31]
   ·refine Mir.skip (Mir.toK (Mir.seqK (Mir.region fun e h => ?_)))
    simp only [↓reduceIte, reduceCtorEq, nA, nS, nM, nE, nL, nT, nB, iT, iN, iE, and_self, SR, SV]
    refine Mir.use (e := e) ?_ h
    refine Mir.ret fun e h => ?_
    cases h
    simp only [↓reduceIte, reduceCtorEq, nA, nE, nL, and_self, and_true, true_and, SL, Tryd.results31]

def r45_shift (a0 : R45Table) (a1 : Int) (a2 : Int) : Option (ApiPos × Int) :=
  bindO (r45_Valid (R45Table.mk a0.Work a0.Lengths)) fun (y101 : Int) =>
  if (y101 != 0) = true then
    some (ApiPos.mk 0 0 0, y101)
  else
    bindO (r45_index a1) fun (y102 : Int) =>
    if (decide (y102 < 0)) = true then
      some (ApiPos.mk 0 0 0, 4)
    else
      bindO (guardO (decide (0 ≤ y102 ∧ y102 < 6)) (
          if (y102 == 0) = true then
            some a0.Work.e0
          else
            if (y102 == 1) = true then
              some a0.Work.e1
            else
              if (y102 == 2) = true then
                some a0.Work.e2
              else
                if (y102 == 3) = true then
                  some a0.Work.e3
                else
                  if (y102 == 4) = true then
                    some a0.Work.e4
                  else
                    some a0.Work.e5)) fun (v103 : ApiPos) =>
      if (a2 == 0) = true then
        some (v103, 0)
      else
        bindX (guardO (okIdx a0.Lengths) (
            rangeX (fun (i130 : Nat) (e132 : R45Length) (v131 : Unit) =>
              if (e132.Number == a2) = true then
                some (.ret (.ret (ApiPos.mk v103.X v103.Y (IntKind.i64.wrap (v103.Z + e132.Length)), 0)))
              else
                some (.go ())) (fun (v131 : Unit) => some (.go ())) a0.Lengths 0 ())) fun (v118 : Unit) =>
        some (ApiPos.mk 0 0 0, 4)
set_option maxHeartbeats 8000000 in
theorem r45_shift_spec {a0 : R45Table} {a1 : Int} {a2 : Int} {y : ApiPos × Int} (h : r45_shift a0 a1 a2 = some y) : Spec gP 52 [.agg [.d (.int .i64 a0.Work.e0.X), .d (.int .i64 a0.Work.e0.Y), .d (.int .i64 a0.Work.e0.Z), .d (.int .i64 a0.Work.e1.X), .d (.int .i64 a0.Work.e1.Y), .d (.int .i64 a0.Work.e1.Z), .d (.int .i64 a0.Work.e2.X), .d (.int .i64 a0.Work.e2.Y), .d (.int .i64 a0.Work.e2.Z), .d (.int .i64 a0.Work.e3.X), .d (.int .i64 a0.Work.e3.Y), .d (.int .i64 a0.Work.e3.Z), .d (.int .i64 a0.Work.e4.X), .d (.int .i64 a0.Work.e4.Y), .d (.int .i64 a0.Work.e4.Z), .d (.int .i64 a0.Work.e5.X), .d (.int .i64 a0.Work.e5.Y), .d (.int .i64 a0.Work.e5.Z), .d (.list (List.map encR45Length a0.Lengths))], .d (.int .i64 a1), .d (.int .i64 a2)] (.tuple [.agg [.d (.int .i64 y.1.X), .d (.int .i64 y.1.Y), .d (.int .i64 y.1.Z)], .d (.int .i64 y.2)]) := by
  refine spec_mir Tryd.func52 rfl (by kernel_rfl) (by kernel_rfl) (fun y : ApiPos × Int => .tuple [.agg [.d (.int .i64 y.1.X), .d (.int .i64 y.1.Y), .d (.int .i64 y.1.Z)], .d (.int .i64 y.2)]) ?_ h
  unfold r45_shift
  simp only [List.replicate, List.length, nS, nA, Tryd.ntmps52, SV]
  refine Mir.seqK (Mir.region fun e h => ?_)
  simp only [↓reduceIte, reduceCtorEq, nA, nS, nM, nE, nL, nT, nB, iT, iN, iE, and_self, SR, SV, zero_23, ENMB]
  refine Mir.use (e := e) ?_ h
  refine Mir.seqK (Mir.seqK (Mir.bind fun y101 hy1 => Mir.region fun e h => ?_))
  simp only [↓reduceIte, reduceCtorEq, nA, nS, nM, nE, nL, nT, nB, iT, iN, iE, and_self, SR, SV, ag_27, sz_27, ENMB]
  refine SpecS.by (r45_Valid_spec hy1) (by simp only [↓reduceIte, reduceCtorEq, nA, nE, nL, and_self, and_true, true_and, SL, ENMB]) ?_
  simp only [↓reduceIte, reduceCtorEq, nA, nS, nM, nE, nL, nT, nB, iT, iN, iE, and_self, SR, SV, ENMB]
  refine Mir.use (e := e) ?_ h
  refine Mir.seqK (Mir.region fun e h => ?_)
  simp only [↓reduceIte, reduceCtorEq, nA, nS, nM, nE, nL, nT, nB, iT, iN, iE, and_self, SR, SV, ENMB]
  refine Mir.use (e := e) ?_ h
  refine Mir.cond rfl (fun hb3 => ?_) (fun hb3 => ?_)
  ·refine Mir.seqK (Mir.region fun e h => ?_)
   simp only [↓reduceIte, reduceCtorEq, nA, nS, nM, nE, nL, nT, nB, iT, iN, iE, and_self, SR, SV, zero_23, pl_23, sz_23, ENMB]
   refine Mir.use (e := e) ?_ h
   refine Mir.ret fun e h => ?_
   cases h
   simp only [↓reduceIte, reduceCtorEq, nA, nE, nL, and_self, and_true, true_and, SL, ENMB, Tryd.results52, ag_23, sz_23]
  ·refine Mir.skip (Mir.toK (Mir.seqK (Mir.bind fun y102 hy4 => Mir.region fun e h => ?_)))
   simp only [↓reduceIte, reduceCtorEq, nA, nS, nM, nE, nL, nT, nB, iT, iN, iE, and_self, SR, SV, ENMB]
   refine SpecS.by (r45_index_spec hy4) (by simp only [↓reduceIte, reduceCtorEq, nA, nE, nL, and_self, and_true, true_and, SL, ENMB]) ?_
   simp only [↓reduceIte, reduceCtorEq, nA, nS, nM, nE, nL, nT, nB, iT, iN, iE, and_self, SR, SV, ENMB]
   refine Mir.use (e := e) ?_ h
   refine Mir.seqK (Mir.seqK (Mir.region fun e h => ?_))
   simp only [↓reduceIte, reduceCtorEq, nA, nS, nM, nE, nL, nT, nB, iT, iN, iE, and_self, SR, SV, ENMB]
   refine Mir.use (e := e) ?_ h
   refine Mir.cond rfl (fun hb6 => ?_) (fun hb6 => ?_)
   ·refine Mir.seqK (Mir.region fun e h => ?_)
    simp only [↓reduceIte, reduceCtorEq, nA, nS, nM, nE, nL, nT, nB, iT, iN, iE, and_self, SR, SV, zero_23, pl_23, sz_23, ENMB]
    refine Mir.use (e := e) ?_ h
    refine Mir.ret fun e h => ?_
    cases h
    simp only [↓reduceIte, reduceCtorEq, nA, nE, nL, and_self, and_true, true_and, SL, ENMB, Tryd.results52, ag_23, sz_23]
   ·refine Mir.skip (Mir.toK (Mir.seqK (Mir.joinO (fun v103 : ApiPos => [U, U, .d (.int .i64 a2), .ptr 0 0, U, U, .ptr 1 0, U, U, U, .ptr 2 0, U, U, U, U, U, U, U, U, U, U, U, U, U, U, U, U, U, U, U, U, U, U, U, U, U, U, U, U, U, U, U, U, U, U, U, U, U, U, U, U, U, U, U, U, U, U]) (fun v103 : ApiPos => ⟨[[.d (.int .i64 a0.Work.e0.X), .d (.int .i64 a0.Work.e0.Y), .d (.int .i64 a0.Work.e0.Z), .d (.int .i64 a0.Work.e1.X), .d (.int .i64 a0.Work.e1.Y), .d (.int .i64 a0.Work.e1.Z), .d (.int .i64 a0.Work.e2.X), .d (.int .i64 a0.Work.e2.Y), .d (.int .i64 a0.Work.e2.Z), .d (.int .i64 a0.Work.e3.X), .d (.int .i64 a0.Work.e3.Y), .d (.int .i64 a0.Work.e3.Z), .d (.int .i64 a0.Work.e4.X), .d (.int .i64 a0.Work.e4.Y), .d (.int .i64 a0.Work.e4.Z), .d (.int .i64 a0.Work.e5.X), .d (.int .i64 a0.Work.e5.Y), .d (.int .i64 a0.Work.e5.Z), .d (.list (List.map encR45Length a0.Lengths))], [.d (.int .i64 0), .d (.int .i64 0), .d (.int .i64 0)], [.d (.int .i64 v103.X), .d (.int .i64 v103.Y), .d (.int .i64 v103.Z)]], []⟩) (fun _ => rfl) ?_ ?_)))
    ·refine Mir.guard fun qi7 => Mir.ite (fun hb8 => ?_) (fun hb8 => ?_)
     ·refine Mir.region fun e h => ?_
      simp only [↓reduceIte, reduceCtorEq, nA, nS, nM, nE, nL, nT, nB, iT, iN, iE, and_self, SR, SV, fld_27_0, sz_24, und_24, (eq_of_beq hb8), sz_23, ag_23, zero_23, ENMB, hb8]
      cases h
      simp only [↓reduceIte, reduceCtorEq, nA, nE, nL, and_self, and_true, true_and, SL, ENMB, hb8]
     ·refine Mir.ite (fun hb9 => ?_) (fun hb9 => ?_)
      ·refine Mir.region fun e h => ?_
       simp only [↓reduceIte, reduceCtorEq, nA, nS, nM, nE, nL, nT, nB, iT, iN, iE, and_self, SR, SV, fld_27_0, sz_24, und_24, (eq_of_beq hb9), sz_23, ag_23, zero_23, ENMB, hb8, hb9]
       cases h
       simp only [↓reduceIte, reduceCtorEq, nA, nE, nL, and_self, and_true, true_and, SL, ENMB, hb8, hb9]
      ·refine Mir.ite (fun hb10 => ?_) (fun hb10 => ?_)
       ·refine Mir.region fun e h => ?_
        simp only [↓reduceIte, reduceCtorEq, nA, nS, nM, nE, nL, nT, nB, iT, iN, iE, and_self, SR, SV, fld_27_0, sz_24, und_24, (eq_of_beq hb10), sz_23, ag_23, zero_23, ENMB, hb8, hb9, hb10]
        cases h
        simp only [↓reduceIte, reduceCtorEq, nA, nE, nL, and_self, and_true, true_and, SL, ENMB, hb8, hb9, hb10]
       ·refine Mir.ite (fun hb11 => ?_) (fun hb11 => ?_)
        ·refine Mir.region fun e h => ?_
         simp only [↓reduceIte, reduceCtorEq, nA, nS, nM, nE, nL, nT, nB, iT, iN, iE, and_self, SR, SV, fld_27_0, sz_24, und_24, (eq_of_beq hb11), sz_23, ag_23, zero_23, ENMB, hb8, hb9, hb10, hb11]
         cases h
         simp only [↓reduceIte, reduceCtorEq, nA, nE, nL, and_self, and_true, true_and, SL, ENMB, hb8, hb9, hb10, hb11]
        ·refine Mir.ite (fun hb12 => ?_) (fun hb12 => ?_)
         ·refine Mir.region fun e h => ?_
          simp only [↓reduceIte, reduceCtorEq, nA, nS, nM, nE, nL, nT, nB, iT, iN, iE, and_self, SR, SV, fld_27_0, sz_24, und_24, (eq_of_beq hb12), sz_23, ag_23, zero_23, ENMB, hb8, hb9, hb10, hb11, hb12]
          cases h
          simp only [↓reduceIte, reduceCtorEq, nA, nE, nL, and_self, and_true, true_and, SL, ENMB, hb8, hb9, hb10, hb11, hb12]
         ·have hz13 : y102 = 5 := by have h0 := of_decide_eq_true qi7; have h1 := ne_of_beq_false hb8; have h2 := ne_of_beq_false hb9; have h3 := ne_of_beq_false hb10; have h4 := ne_of_beq_false hb11; have h5 := ne_of_beq_false hb12; omega
          refine Mir.region fun e h => ?_
          simp only [↓reduceIte, reduceCtorEq, nA, nS, nM, nE, nL, nT, nB, iT, iN, iE, and_self, SR, SV, fld_27_0, sz_24, und_24, hz13, sz_23, ag_23, zero_23, ENMB, hb8, hb9, hb10, hb11, hb12]
          cases h
          simp only [↓reduceIte, reduceCtorEq, nA, nE, nL, and_self, and_true, true_and, SL, ENMB, hb8, hb9, hb10, hb11, hb12]
    ·intro v103
     refine Mir.toK (Mir.seqK (Mir.seqK (Mir.region fun e h => ?_)))
     simp only [↓reduceIte, reduceCtorEq, nA, nS, nM, nE, nL, nT, nB, iT, iN, iE, and_self, SR, SV, ENMB]
     refine Mir.use (e := e) ?_ h
     refine Mir.cond rfl (fun hb15 => ?_) (fun hb15 => ?_)
     ·refine Mir.seqK (Mir.region fun e h => ?_)
      simp only [↓reduceIte, reduceCtorEq, nA, nS, nM, nE, nL, nT, nB, iT, iN, iE, and_self, SR, SV, ag_23, sz_23, ENMB]
      refine Mir.use (e := e) ?_ h
      refine Mir.ret fun e h => ?_
      cases h
      simp only [↓reduceIte, reduceCtorEq, nA, nE, nL, and_self, and_true, true_and, SL, ENMB, Tryd.results52, ag_23, sz_23]
     ·refine Mir.skip (Mir.toK (Mir.seqK (Mir.seqK (Mir.region fun e h => ?_))))
      simp only [↓reduceIte, reduceCtorEq, nA, nS, nM, nE, nL, nT, nB, iT, iN, iE, and_self, SR, SV, ENMB]
      refine Mir.use (e := e) ?_ h
      refine Mir.join (fun v118 : Unit => [U, U, U, U, U, U, .ptr 1 0, U, U, U, U, U, U, U, U, U, U, U, U, U, U, U, U, U, U, U, U, U, U, U, U, U, U, U, U, U, U, U, U, U, U, U, U, U, U, U, U, U, U, U, U, U, U, U, U, U, U]) (fun v118 : Unit => ⟨[[.d (.int .i64 a0.Work.e0.X), .d (.int .i64 a0.Work.e0.Y), .d (.int .i64 a0.Work.e0.Z), .d (.int .i64 a0.Work.e1.X), .d (.int .i64 a0.Work.e1.Y), .d (.int .i64 a0.Work.e1.Z), .d (.int .i64 a0.Work.e2.X), .d (.int .i64 a0.Work.e2.Y), .d (.int .i64 a0.Work.e2.Z), .d (.int .i64 a0.Work.e3.X), .d (.int .i64 a0.Work.e3.Y), .d (.int .i64 a0.Work.e3.Z), .d (.int .i64 a0.Work.e4.X), .d (.int .i64 a0.Work.e4.Y), .d (.int .i64 a0.Work.e4.Z), .d (.int .i64 a0.Work.e5.X), .d (.int .i64 a0.Work.e5.Y), .d (.int .i64 a0.Work.e5.Z), .d (.list (List.map encR45Length a0.Lengths))], [.d (.int .i64 0), .d (.int .i64 0), .d (.int .i64 0)], [.d (.int .i64 v103.X), .d (.int .i64 v103.Y), .d (.int .i64 v103.Z)]], []⟩) (fun _ => rfl) ?_ ?_
      ·refine Mir.block (Mir.guard fun qg66 => Mir.range (fun (i130 : Nat) (v131 : Unit) => [U, U, .d (.int .i64 a2), .ptr 0 0, U, U, .ptr 1 0, U, U, U, .ptr 2 0, .d (.int .i64 (i130 : Int)), U, U, U, U, U, U, U, U, U, U, U, U, U, U, U, U, U, U, U, U, U, U, U, U, U, U, U, U, U, U, U, U, U, U, U, U, U, U, U, U, U, U, U, U, U]) (fun (i130 : Nat) (v131 : Unit) => ⟨[[.d (.int .i64 a0.Work.e0.X), .d (.int .i64 a0.Work.e0.Y), .d (.int .i64 a0.Work.e0.Z), .d (.int .i64 a0.Work.e1.X), .d (.int .i64 a0.Work.e1.Y), .d (.int .i64 a0.Work.e1.Z), .d (.int .i64 a0.Work.e2.X), .d (.int .i64 a0.Work.e2.Y), .d (.int .i64 a0.Work.e2.Z), .d (.int .i64 a0.Work.e3.X), .d (.int .i64 a0.Work.e3.Y), .d (.int .i64 a0.Work.e3.Z), .d (.int .i64 a0.Work.e4.X), .d (.int .i64 a0.Work.e4.Y), .d (.int .i64 a0.Work.e4.Z), .d (.int .i64 a0.Work.e5.X), .d (.int .i64 a0.Work.e5.Y), .d (.int .i64 a0.Work.e5.Z), .d (.list (List.map encR45Length a0.Lengths))], [.d (.int .i64 0), .d (.int .i64 0), .d (.int .i64 0)], [.d (.int .i64 v103.X), .d (.int .i64 v103.Y), .d (.int .i64 v103.Z)]], []⟩) qg66 (fun _ _ => rfl) (by simp only [↓reduceIte, reduceCtorEq, nA, nE, nL, and_self, and_true, true_and, SL, ENMB, (nr rfl : ((0 : Nat) : Int) = 0)]) (by simp only [↓reduceIte, reduceCtorEq, nA, nE, nL, and_self, and_true, true_and, SL, ENMB, (nr rfl : ((0 : Nat) : Int) = 0)]) ?_ ?_)
       ·intro i130 e132 v131 qr64
        refine Mir.seqK (Mir.seqK (Mir.region fun e h => ?_))
        simp only [↓reduceIte, reduceCtorEq, nA, nS, nM, nE, nL, nT, nB, iT, iN, iE, and_self, SR, SV, fld_27_1, sz_25, ag_25, und_25, qr64, ENMB]
        refine Mir.use (e := e) ?_ h
        refine Mir.condT rfl (Mir.skip (Mir.toK (Mir.seqK (Mir.block (Mir.seqK (Mir.region fun e h => ?_))))))
        simp only [↓reduceIte, reduceCtorEq, nA, nS, nM, nE, nL, nT, nB, iT, iN, iE, and_self, SR, SV, fld_27_1, sz_25, ag_25, und_25, sz_61, qr64, Int.toNat_natCast, fld_61_0, sz_2, ag_2, ENMB]
        refine Mir.use (e := e) ?_ h
        refine Mir.cond rfl (fun hb69 => ?_) (fun hb69 => ?_)
        ·refine Mir.seqK (Mir.regionD [] (by kernel_rfl) fun e h => ?_)
         simp only [↓reduceIte, reduceCtorEq, nA, nS, nM, nE, nL, nT, nB, iT, iN, iE, and_self, SR, SV, sepL_nil, sepL_cons, sepV_ne, sepV_d, sepV_i, true_and, Bool.and_self, fld_23_2, sz_2, ag_2, fld_27_1, sz_25, ag_25, und_25, sz_61, qr64, Int.toNat_natCast, fld_61_1, ENMB]
         refine Mir.use (e := e) ?_ h
         refine Mir.seqK (Mir.region fun e h => ?_)
         simp only [↓reduceIte, reduceCtorEq, nA, nS, nM, nE, nL, nT, nB, iT, iN, iE, and_self, SR, SV, ag_23, sz_23, ENMB]
         refine Mir.use (e := e) ?_ h
         refine Mir.ret fun e h => ?_
         cases h
         simp only [↓reduceIte, reduceCtorEq, nA, nE, nL, and_self, and_true, true_and, SL, ENMB, Tryd.results52, ag_23, sz_23]
        ·refine Mir.skip (Mir.toB (Mir.toK (Mir.region fun e h => ?_)))
         simp only [↓reduceIte, reduceCtorEq, nA, nS, nM, nE, nL, nT, nB, iT, iN, iE, and_self, SR, SV, ENMB]
         cases h
         simp only [↓reduceIte, reduceCtorEq, nA, nE, nL, and_self, and_true, true_and, SL, ENMB, Tryd.results52, ag_23, sz_23, qr64]
       ·intro v131 qd65
        refine Mir.seqK (Mir.seqK (Mir.region fun e h => ?_))
        simp only [↓reduceIte, reduceCtorEq, nA, nS, nM, nE, nL, nT, nB, iT, iN, iE, and_self, SR, SV, fld_27_1, sz_25, ag_25, und_25, qd65, ENMB]
        refine Mir.use (e := e) ?_ h
        refine Mir.condF rfl (Mir.exit fun e h => ?_)
        cases h
        simp only [↓reduceIte, reduceCtorEq, nA, nE, nL, and_self, and_true, true_and, SL, ENMB, Tryd.results52, ag_23, sz_23]
      ·intro v118
       refine Mir.toK (Mir.seqK (Mir.region fun e h => ?_))
       simp only [↓reduceIte, reduceCtorEq, nA, nS, nM, nE, nL, nT, nB, iT, iN, iE, and_self, SR, SV, zero_23, pl_23, sz_23, ENMB]
       refine Mir.use (e := e) ?_ h
       refine Mir.ret fun e h => ?_
       cases h
       simp only [↓reduceIte, reduceCtorEq, nA, nE, nL, and_self, and_true, true_and, SL, ENMB, Tryd.results52, ag_23, sz_23]

def r45_move (a0 : R45Table) (a1 : Int) (a2 : Int) (a3 : ApiPos) (a4 : Int) : Option (ApiPos × Int) :=
  bindO (r45_shift (R45Table.mk a0.Work a0.Lengths) a1 a2) fun (y101 : ApiPos × Int) =>
  if (y101.2 != 0) = true then
    some (ApiPos.mk 0 0 0, y101.2)
  else
    bindO (r45_out a3) fun (y102 : Bool) =>
    if y102 = true then
      some (ApiPos.mk 0 0 0, 11)
    else
      bindO (r45_out (ApiPos.mk (IntKind.i64.wrap (a3.X + (IntKind.i64.wrap (a4 * y101.1.X)))) (IntKind.i64.wrap (a3.Y + (IntKind.i64.wrap (a4 * y101.1.Y)))) (IntKind.i64.wrap (a3.Z + (IntKind.i64.wrap (a4 * y101.1.Z)))))) fun (y103 : Bool) =>
      if y103 = true then
        some (ApiPos.mk 0 0 0, 11)
      else
        some (ApiPos.mk (IntKind.i64.wrap (a3.X + (IntKind.i64.wrap (a4 * y101.1.X)))) (IntKind.i64.wrap (a3.Y + (IntKind.i64.wrap (a4 * y101.1.Y)))) (IntKind.i64.wrap (a3.Z + (IntKind.i64.wrap (a4 * y101.1.Z)))), 0)
theorem r45_move_spec {a0 : R45Table} {a1 : Int} {a2 : Int} {a3 : ApiPos} {a4 : Int} {y : ApiPos × Int} (h : r45_move a0 a1 a2 a3 a4 = some y) : Spec gP 36 [.agg [.d (.int .i64 a0.Work.e0.X), .d (.int .i64 a0.Work.e0.Y), .d (.int .i64 a0.Work.e0.Z), .d (.int .i64 a0.Work.e1.X), .d (.int .i64 a0.Work.e1.Y), .d (.int .i64 a0.Work.e1.Z), .d (.int .i64 a0.Work.e2.X), .d (.int .i64 a0.Work.e2.Y), .d (.int .i64 a0.Work.e2.Z), .d (.int .i64 a0.Work.e3.X), .d (.int .i64 a0.Work.e3.Y), .d (.int .i64 a0.Work.e3.Z), .d (.int .i64 a0.Work.e4.X), .d (.int .i64 a0.Work.e4.Y), .d (.int .i64 a0.Work.e4.Z), .d (.int .i64 a0.Work.e5.X), .d (.int .i64 a0.Work.e5.Y), .d (.int .i64 a0.Work.e5.Z), .d (.list (List.map encR45Length a0.Lengths))], .d (.int .i64 a1), .d (.int .i64 a2), .agg [.d (.int .i64 a3.X), .d (.int .i64 a3.Y), .d (.int .i64 a3.Z)], .d (.int .i64 a4)] (.tuple [.agg [.d (.int .i64 y.1.X), .d (.int .i64 y.1.Y), .d (.int .i64 y.1.Z)], .d (.int .i64 y.2)]) := by
  refine spec_mir Tryd.func36 rfl (by kernel_rfl) (by kernel_rfl) (fun y : ApiPos × Int => .tuple [.agg [.d (.int .i64 y.1.X), .d (.int .i64 y.1.Y), .d (.int .i64 y.1.Z)], .d (.int .i64 y.2)]) ?_ h
  unfold r45_move
  simp only [List.replicate, List.length, nS, nA, Tryd.ntmps36, SV]
  refine Mir.seqK (Mir.region fun e h => ?_)
  simp only [↓reduceIte, reduceCtorEq, nA, nS, nM, nE, nL, nT, nB, iT, iN, iE, and_self, SR, SV, zero_23, ENMB]
  refine Mir.use (e := e) ?_ h
  refine Mir.seqK (Mir.bind fun y101 hy1 => Mir.region fun e h => ?_)
  simp only [↓reduceIte, reduceCtorEq, nA, nS, nM, nE, nL, nT, nB, iT, iN, iE, and_self, SR, SV, ag_27, sz_27, ENMB]
  refine SpecS.by (r45_shift_spec hy1) (by simp only [↓reduceIte, reduceCtorEq, nA, nE, nL, and_self, and_true, true_and, SL, ENMB]) ?_
  simp only [↓reduceIte, reduceCtorEq, nA, nS, nM, nE, nL, nT, nB, iT, iN, iE, and_self, SR, SV, zero_23, sz_23, ENMB]
  refine Mir.use (e := e) ?_ h
  refine Mir.seqK (Mir.seqK (Mir.region fun e h => ?_))
  simp only [↓reduceIte, reduceCtorEq, nA, nS, nM, nE, nL, nT, nB, iT, iN, iE, and_self, SR, SV, ENMB]
  refine Mir.use (e := e) ?_ h
  refine Mir.cond rfl (fun hb3 => ?_) (fun hb3 => ?_)
  ·refine Mir.seqK (Mir.region fun e h => ?_)
   simp only [↓reduceIte, reduceCtorEq, nA, nS, nM, nE, nL, nT, nB, iT, iN, iE, and_self, SR, SV, zero_23, pl_23, sz_23, ENMB]
   refine Mir.use (e := e) ?_ h
   refine Mir.ret fun e h => ?_
   cases h
   simp only [↓reduceIte, reduceCtorEq, nA, nE, nL, and_self, and_true, true_and, SL, ENMB, Tryd.results36, ag_23, sz_23]
  ·refine Mir.skip (Mir.toK (Mir.seqK (Mir.seqK (Mir.bind fun y102 hy4 => Mir.region fun e h => ?_))))
   simp only [↓reduceIte, reduceCtorEq, nA, nS, nM, nE, nL, nT, nB, iT, iN, iE, and_self, SR, SV, ag_23, sz_23, ENMB]
   refine SpecS.by (r45_out_spec hy4) (by simp only [↓reduceIte, reduceCtorEq, nA, nE, nL, and_self, and_true, true_and, SL, ENMB]) ?_
   simp only [↓reduceIte, reduceCtorEq, nA, nS, nM, nE, nL, nT, nB, iT, iN, iE, and_self, SR, SV, ENMB]
   refine Mir.use (e := e) ?_ h
   refine Mir.cond rfl (fun hb6 => ?_) (fun hb6 => ?_)
   ·refine Mir.seqK (Mir.region fun e h => ?_)
    simp only [↓reduceIte, reduceCtorEq, nA, nS, nM, nE, nL, nT, nB, iT, iN, iE, and_self, SR, SV, zero_23, pl_23, sz_23, ENMB]
    refine Mir.use (e := e) ?_ h
    refine Mir.ret fun e h => ?_
    cases h
    simp only [↓reduceIte, reduceCtorEq, nA, nE, nL, and_self, and_true, true_and, SL, ENMB, Tryd.results36, ag_23, sz_23]
   ·refine Mir.skip (Mir.toK (Mir.seqK (Mir.region fun e h => ?_)))
    simp only [↓reduceIte, reduceCtorEq, nA, nS, nM, nE, nL, nT, nB, iT, iN, iE, and_self, SR, SV, fld_23_0, sz_2, ag_2, fld_23_1, fld_23_2, zero_23, pl_23, sz_23, ENMB]
    refine Mir.use (e := e) ?_ h
    refine Mir.seqK (Mir.seqK (Mir.bind fun y103 hy7 => Mir.region fun e h => ?_))
    simp only [↓reduceIte, reduceCtorEq, nA, nS, nM, nE, nL, nT, nB, iT, iN, iE, and_self, SR, SV, ag_23, sz_23, ENMB]
    refine SpecS.by (r45_out_spec hy7) (by simp only [↓reduceIte, reduceCtorEq, nA, nE, nL, and_self, and_true, true_and, SL, ENMB]) ?_
    simp only [↓reduceIte, reduceCtorEq, nA, nS, nM, nE, nL, nT, nB, iT, iN, iE, and_self, SR, SV, ENMB]
    refine Mir.use (e := e) ?_ h
    refine Mir.cond rfl (fun hb9 => ?_) (fun hb9 => ?_)
    ·refine Mir.seqK (Mir.region fun e h => ?_)
     simp only [↓reduceIte, reduceCtorEq, nA, nS, nM, nE, nL, nT, nB, iT, iN, iE, and_self, SR, SV, zero_23, pl_23, sz_23, ENMB]
     refine Mir.use (e := e) ?_ h
     refine Mir.ret fun e h => ?_
     cases h
     simp only [↓reduceIte, reduceCtorEq, nA, nE, nL, and_self, and_true, true_and, SL, ENMB, Tryd.results36, ag_23, sz_23]
    ·refine Mir.skip (Mir.toK (Mir.seqK (Mir.region fun e h => ?_)))
     simp only [↓reduceIte, reduceCtorEq, nA, nS, nM, nE, nL, nT, nB, iT, iN, iE, and_self, SR, SV, ag_23, sz_23, ENMB]
     refine Mir.use (e := e) ?_ h
     refine Mir.ret fun e h => ?_
     cases h
     simp only [↓reduceIte, reduceCtorEq, nA, nE, nL, and_self, and_true, true_and, SL, ENMB, Tryd.results36, ag_23, sz_23]

def r45_Machine (a0 : R45Table) (a1 : Int) (a2 : Int) (a3 : ApiPos) : Option (ApiPos × Int) :=
  bindO (r45_move (R45Table.mk a0.Work a0.Lengths) a1 a2 a3 1) fun (y101 : ApiPos × Int) =>
  some (y101.1, y101.2)
theorem r45_Machine_spec {a0 : R45Table} {a1 : Int} {a2 : Int} {a3 : ApiPos} {y : ApiPos × Int} (h : r45_Machine a0 a1 a2 a3 = some y) : Spec gP 20 [.agg [.d (.int .i64 a0.Work.e0.X), .d (.int .i64 a0.Work.e0.Y), .d (.int .i64 a0.Work.e0.Z), .d (.int .i64 a0.Work.e1.X), .d (.int .i64 a0.Work.e1.Y), .d (.int .i64 a0.Work.e1.Z), .d (.int .i64 a0.Work.e2.X), .d (.int .i64 a0.Work.e2.Y), .d (.int .i64 a0.Work.e2.Z), .d (.int .i64 a0.Work.e3.X), .d (.int .i64 a0.Work.e3.Y), .d (.int .i64 a0.Work.e3.Z), .d (.int .i64 a0.Work.e4.X), .d (.int .i64 a0.Work.e4.Y), .d (.int .i64 a0.Work.e4.Z), .d (.int .i64 a0.Work.e5.X), .d (.int .i64 a0.Work.e5.Y), .d (.int .i64 a0.Work.e5.Z), .d (.list (List.map encR45Length a0.Lengths))], .d (.int .i64 a1), .d (.int .i64 a2), .agg [.d (.int .i64 a3.X), .d (.int .i64 a3.Y), .d (.int .i64 a3.Z)]] (.tuple [.agg [.d (.int .i64 y.1.X), .d (.int .i64 y.1.Y), .d (.int .i64 y.1.Z)], .d (.int .i64 y.2)]) := by
  refine spec_mir Tryd.func20 rfl (by kernel_rfl) (by kernel_rfl) (fun y : ApiPos × Int => .tuple [.agg [.d (.int .i64 y.1.X), .d (.int .i64 y.1.Y), .d (.int .i64 y.1.Z)], .d (.int .i64 y.2)]) ?_ h
  unfold r45_Machine
  simp only [List.replicate, List.length, nS, nA, Tryd.ntmps20, SV]
  refine Mir.seqK (Mir.region fun e h => ?_)
  simp only [↓reduceIte, reduceCtorEq, nA, nS, nM, nE, nL, nT, nB, iT, iN, iE, and_self, SR, SV, zero_23, ENMB]
  refine Mir.use (e := e) ?_ h
  refine Mir.seqK (Mir.bind fun y101 hy1 => Mir.region fun e h => ?_)
  simp only [↓reduceIte, reduceCtorEq, nA, nS, nM, nE, nL, nT, nB, iT, iN, iE, and_self, SR, SV, ag_27, sz_27, ag_23, sz_23, ENMB]
  refine SpecS.by (r45_move_spec hy1) (by simp only [↓reduceIte, reduceCtorEq, nA, nE, nL, and_self, and_true, true_and, SL, ENMB]) ?_
  simp only [↓reduceIte, reduceCtorEq, nA, nS, nM, nE, nL, nT, nB, iT, iN, iE, and_self, SR, SV, sz_23, ENMB]
  refine Mir.use (e := e) ?_ h
  refine Mir.ret fun e h => ?_
  cases h
  simp only [↓reduceIte, reduceCtorEq, nA, nE, nL, and_self, and_true, true_and, SL, ENMB, Tryd.results20, ag_23, sz_23]

def r45_Work (a0 : R45Table) (a1 : Int) (a2 : Int) (a3 : ApiPos) : Option (ApiPos × Int) :=
  bindO (r45_move a0 a1 a2 a3 (-1)) fun (y101 : ApiPos × Int) =>
  some (y101.1, y101.2)
theorem r45_Work_spec {a0 : R45Table} {a1 : Int} {a2 : Int} {a3 : ApiPos} {y : ApiPos × Int} (h : r45_Work a0 a1 a2 a3 = some y) : Spec gP 22 [.agg [.d (.int .i64 a0.Work.e0.X), .d (.int .i64 a0.Work.e0.Y), .d (.int .i64 a0.Work.e0.Z), .d (.int .i64 a0.Work.e1.X), .d (.int .i64 a0.Work.e1.Y), .d (.int .i64 a0.Work.e1.Z), .d (.int .i64 a0.Work.e2.X), .d (.int .i64 a0.Work.e2.Y), .d (.int .i64 a0.Work.e2.Z), .d (.int .i64 a0.Work.e3.X), .d (.int .i64 a0.Work.e3.Y), .d (.int .i64 a0.Work.e3.Z), .d (.int .i64 a0.Work.e4.X), .d (.int .i64 a0.Work.e4.Y), .d (.int .i64 a0.Work.e4.Z), .d (.int .i64 a0.Work.e5.X), .d (.int .i64 a0.Work.e5.Y), .d (.int .i64 a0.Work.e5.Z), .d (.list (List.map encR45Length a0.Lengths))], .d (.int .i64 a1), .d (.int .i64 a2), .agg [.d (.int .i64 a3.X), .d (.int .i64 a3.Y), .d (.int .i64 a3.Z)]] (.tuple [.agg [.d (.int .i64 y.1.X), .d (.int .i64 y.1.Y), .d (.int .i64 y.1.Z)], .d (.int .i64 y.2)]) := by
  refine spec_mir Tryd.func22 rfl (by kernel_rfl) (by kernel_rfl) (fun y : ApiPos × Int => .tuple [.agg [.d (.int .i64 y.1.X), .d (.int .i64 y.1.Y), .d (.int .i64 y.1.Z)], .d (.int .i64 y.2)]) ?_ h
  unfold r45_Work
  simp only [List.replicate, List.length, nS, nA, Tryd.ntmps22, SV]
  refine Mir.seqK (Mir.region fun e h => ?_)
  simp only [↓reduceIte, reduceCtorEq, nA, nS, nM, nE, nL, nT, nB, iT, iN, iE, and_self, SR, SV, zero_23, ENMB]
  refine Mir.use (e := e) ?_ h
  refine Mir.seqK (Mir.bind fun y101 hy1 => Mir.region fun e h => ?_)
  simp only [↓reduceIte, reduceCtorEq, nA, nS, nM, nE, nL, nT, nB, iT, iN, iE, and_self, SR, SV, ag_27, sz_27, ag_23, sz_23, ENMB]
  refine SpecS.by (r45_move_spec hy1) (by simp only [↓reduceIte, reduceCtorEq, nA, nE, nL, and_self, and_true, true_and, SL, ENMB]) ?_
  simp only [↓reduceIte, reduceCtorEq, nA, nS, nM, nE, nL, nT, nB, iT, iN, iE, and_self, SR, SV, sz_23, ENMB]
  refine Mir.use (e := e) ?_ h
  refine Mir.ret fun e h => ?_
  cases h
  simp only [↓reduceIte, reduceCtorEq, nA, nE, nL, and_self, and_true, true_and, SL, ENMB, Tryd.results22, ag_23, sz_23]

def r45_SetWork (a0 : R45Table) (a1 : Int) (a2 : ApiPos) : Option (R45Table × Int) :=
  bindO (r45_Valid a0) fun (y101 : Int) =>
  if (y101 != 0) = true then
    some (R45Table.mk (Arr6ApiPos.mk (ApiPos.mk 0 0 0) (ApiPos.mk 0 0 0) (ApiPos.mk 0 0 0) (ApiPos.mk 0 0 0) (ApiPos.mk 0 0 0) (ApiPos.mk 0 0 0)) [], y101)
  else
    bindO (r45_index a1) fun (y102 : Int) =>
    if (decide (y102 < 0)) = true then
      some (R45Table.mk (Arr6ApiPos.mk (ApiPos.mk 0 0 0) (ApiPos.mk 0 0 0) (ApiPos.mk 0 0 0) (ApiPos.mk 0 0 0) (ApiPos.mk 0 0 0) (ApiPos.mk 0 0 0)) [], 4)
    else
      bindO (r45_out a2) fun (y103 : Bool) =>
      if y103 = true then
        some (R45Table.mk (Arr6ApiPos.mk (ApiPos.mk 0 0 0) (ApiPos.mk 0 0 0) (ApiPos.mk 0 0 0) (ApiPos.mk 0 0 0) (ApiPos.mk 0 0 0) (ApiPos.mk 0 0 0)) [], 11)
      else
        guardO (okLen (a0.Lengths.length)) (
        bindO (guardO (decide (0 ≤ y102 ∧ y102 < 6)) (
            if (y102 == 0) = true then
              some (R45Table.mk (Arr6ApiPos.mk a2 a0.Work.e1 a0.Work.e2 a0.Work.e3 a0.Work.e4 a0.Work.e5) a0.Lengths)
            else
              if (y102 == 1) = true then
                some (R45Table.mk (Arr6ApiPos.mk a0.Work.e0 a2 a0.Work.e2 a0.Work.e3 a0.Work.e4 a0.Work.e5) a0.Lengths)
              else
                if (y102 == 2) = true then
                  some (R45Table.mk (Arr6ApiPos.mk a0.Work.e0 a0.Work.e1 a2 a0.Work.e3 a0.Work.e4 a0.Work.e5) a0.Lengths)
                else
                  if (y102 == 3) = true then
                    some (R45Table.mk (Arr6ApiPos.mk a0.Work.e0 a0.Work.e1 a0.Work.e2 a2 a0.Work.e4 a0.Work.e5) a0.Lengths)
                  else
                    if (y102 == 4) = true then
                      some (R45Table.mk (Arr6ApiPos.mk a0.Work.e0 a0.Work.e1 a0.Work.e2 a0.Work.e3 a2 a0.Work.e5) a0.Lengths)
                    else
                      some (R45Table.mk (Arr6ApiPos.mk a0.Work.e0 a0.Work.e1 a0.Work.e2 a0.Work.e3 a0.Work.e4 a2) a0.Lengths))) fun (v104 : R45Table) =>
        some (v104, 0))
theorem r45_SetWork_spec {a0 : R45Table} {a1 : Int} {a2 : ApiPos} {y : R45Table × Int} (h : r45_SetWork a0 a1 a2 = some y) : Spec gP 13 [.agg [.d (.int .i64 a0.Work.e0.X), .d (.int .i64 a0.Work.e0.Y), .d (.int .i64 a0.Work.e0.Z), .d (.int .i64 a0.Work.e1.X), .d (.int .i64 a0.Work.e1.Y), .d (.int .i64 a0.Work.e1.Z), .d (.int .i64 a0.Work.e2.X), .d (.int .i64 a0.Work.e2.Y), .d (.int .i64 a0.Work.e2.Z), .d (.int .i64 a0.Work.e3.X), .d (.int .i64 a0.Work.e3.Y), .d (.int .i64 a0.Work.e3.Z), .d (.int .i64 a0.Work.e4.X), .d (.int .i64 a0.Work.e4.Y), .d (.int .i64 a0.Work.e4.Z), .d (.int .i64 a0.Work.e5.X), .d (.int .i64 a0.Work.e5.Y), .d (.int .i64 a0.Work.e5.Z), .d (.list (List.map encR45Length a0.Lengths))], .d (.int .i64 a1), .agg [.d (.int .i64 a2.X), .d (.int .i64 a2.Y), .d (.int .i64 a2.Z)]] (.tuple [.agg [.d (.int .i64 y.1.Work.e0.X), .d (.int .i64 y.1.Work.e0.Y), .d (.int .i64 y.1.Work.e0.Z), .d (.int .i64 y.1.Work.e1.X), .d (.int .i64 y.1.Work.e1.Y), .d (.int .i64 y.1.Work.e1.Z), .d (.int .i64 y.1.Work.e2.X), .d (.int .i64 y.1.Work.e2.Y), .d (.int .i64 y.1.Work.e2.Z), .d (.int .i64 y.1.Work.e3.X), .d (.int .i64 y.1.Work.e3.Y), .d (.int .i64 y.1.Work.e3.Z), .d (.int .i64 y.1.Work.e4.X), .d (.int .i64 y.1.Work.e4.Y), .d (.int .i64 y.1.Work.e4.Z), .d (.int .i64 y.1.Work.e5.X), .d (.int .i64 y.1.Work.e5.Y), .d (.int .i64 y.1.Work.e5.Z), .d (.list (List.map encR45Length y.1.Lengths))], .d (.int .i64 y.2)]) := by
  refine spec_mir Tryd.func13 rfl (by kernel_rfl) (by kernel_rfl) (fun y : R45Table × Int => .tuple [.agg [.d (.int .i64 y.1.Work.e0.X), .d (.int .i64 y.1.Work.e0.Y), .d (.int .i64 y.1.Work.e0.Z), .d (.int .i64 y.1.Work.e1.X), .d (.int .i64 y.1.Work.e1.Y), .d (.int .i64 y.1.Work.e1.Z), .d (.int .i64 y.1.Work.e2.X), .d (.int .i64 y.1.Work.e2.Y), .d (.int .i64 y.1.Work.e2.Z), .d (.int .i64 y.1.Work.e3.X), .d (.int .i64 y.1.Work.e3.Y), .d (.int .i64 y.1.Work.e3.Z), .d (.int .i64 y.1.Work.e4.X), .d (.int .i64 y.1.Work.e4.Y), .d (.int .i64 y.1.Work.e4.Z), .d (.int .i64 y.1.Work.e5.X), .d (.int .i64 y.1.Work.e5.Y), .d (.int .i64 y.1.Work.e5.Z), .d (.list (List.map encR45Length y.1.Lengths))], .d (.int .i64 y.2)]) ?_ h
  unfold r45_SetWork
  simp only [List.replicate, List.length, nS, nA, Tryd.ntmps13, SV]
  refine Mir.seqK (Mir.region fun e h => ?_)
  simp only [↓reduceIte, reduceCtorEq, nA, nS, nM, nE, nL, nT, nB, iT, iN, iE, and_self, SR, SV, zero_27, ENMB]
  refine Mir.use (e := e) ?_ h
  refine Mir.seqK (Mir.seqK (Mir.bind fun y101 hy1 => Mir.region fun e h => ?_))
  simp only [↓reduceIte, reduceCtorEq, nA, nS, nM, nE, nL, nT, nB, iT, iN, iE, and_self, SR, SV, ag_27, sz_27, ENMB]
  refine SpecS.by (r45_Valid_spec hy1) (by simp only [↓reduceIte, reduceCtorEq, nA, nE, nL, and_self, and_true, true_and, SL, ENMB]) ?_
  simp only [↓reduceIte, reduceCtorEq, nA, nS, nM, nE, nL, nT, nB, iT, iN, iE, and_self, SR, SV, ENMB]
  refine Mir.use (e := e) ?_ h
  refine Mir.seqK (Mir.region fun e h => ?_)
  simp only [↓reduceIte, reduceCtorEq, nA, nS, nM, nE, nL, nT, nB, iT, iN, iE, and_self, SR, SV, ENMB]
  refine Mir.use (e := e) ?_ h
  refine Mir.cond rfl (fun hb3 => ?_) (fun hb3 => ?_)
  ·refine Mir.seqK (Mir.region fun e h => ?_)
   simp only [↓reduceIte, reduceCtorEq, nA, nS, nM, nE, nL, nT, nB, iT, iN, iE, and_self, SR, SV, zero_27, pl_27, sz_27, ENMB]
   refine Mir.use (e := e) ?_ h
   refine Mir.ret fun e h => ?_
   cases h
   simp only [↓reduceIte, reduceCtorEq, nA, nE, nL, and_self, and_true, true_and, SL, ENMB, Tryd.results13, ag_27, sz_27]
  ·refine Mir.skip (Mir.toK (Mir.seqK (Mir.bind fun y102 hy4 => Mir.region fun e h => ?_)))
   simp only [↓reduceIte, reduceCtorEq, nA, nS, nM, nE, nL, nT, nB, iT, iN, iE, and_self, SR, SV, ENMB]
   refine SpecS.by (r45_index_spec hy4) (by simp only [↓reduceIte, reduceCtorEq, nA, nE, nL, and_self, and_true, true_and, SL, ENMB]) ?_
   simp only [↓reduceIte, reduceCtorEq, nA, nS, nM, nE, nL, nT, nB, iT, iN, iE, and_self, SR, SV, ENMB]
   refine Mir.use (e := e) ?_ h
   refine Mir.seqK (Mir.seqK (Mir.region fun e h => ?_))
   simp only [↓reduceIte, reduceCtorEq, nA, nS, nM, nE, nL, nT, nB, iT, iN, iE, and_self, SR, SV, ENMB]
   refine Mir.use (e := e) ?_ h
   refine Mir.cond rfl (fun hb6 => ?_) (fun hb6 => ?_)
   ·refine Mir.seqK (Mir.region fun e h => ?_)
    simp only [↓reduceIte, reduceCtorEq, nA, nS, nM, nE, nL, nT, nB, iT, iN, iE, and_self, SR, SV, zero_27, pl_27, sz_27, ENMB]
    refine Mir.use (e := e) ?_ h
    refine Mir.ret fun e h => ?_
    cases h
    simp only [↓reduceIte, reduceCtorEq, nA, nE, nL, and_self, and_true, true_and, SL, ENMB, Tryd.results13, ag_27, sz_27]
   ·refine Mir.skip (Mir.toK (Mir.seqK (Mir.seqK (Mir.bind fun y103 hy7 => Mir.region fun e h => ?_))))
    simp only [↓reduceIte, reduceCtorEq, nA, nS, nM, nE, nL, nT, nB, iT, iN, iE, and_self, SR, SV, ag_23, sz_23, ENMB]
    refine SpecS.by (r45_out_spec hy7) (by simp only [↓reduceIte, reduceCtorEq, nA, nE, nL, and_self, and_true, true_and, SL, ENMB]) ?_
    simp only [↓reduceIte, reduceCtorEq, nA, nS, nM, nE, nL, nT, nB, iT, iN, iE, and_self, SR, SV, ENMB]
    refine Mir.use (e := e) ?_ h
    refine Mir.cond rfl (fun hb9 => ?_) (fun hb9 => ?_)
    ·refine Mir.seqK (Mir.region fun e h => ?_)
     simp only [↓reduceIte, reduceCtorEq, nA, nS, nM, nE, nL, nT, nB, iT, iN, iE, and_self, SR, SV, zero_27, pl_27, sz_27, ENMB]
     refine Mir.use (e := e) ?_ h
     refine Mir.ret fun e h => ?_
     cases h
     simp only [↓reduceIte, reduceCtorEq, nA, nE, nL, and_self, and_true, true_and, SL, ENMB, Tryd.results13, ag_27, sz_27]
    ·refine Mir.skip (Mir.toK (Mir.seqK (Mir.guard fun q10 => Mir.regionD [] (by kernel_rfl) fun e h => ?_)))
     simp only [↓reduceIte, reduceCtorEq, nA, nS, nM, nE, nL, nT, nB, iT, iN, iE, and_self, SR, SV, sepL_nil, sepL_cons, sepV_ne, sepV_d, sepV_i, true_and, Bool.and_self, fld_27_0, sz_24, ag_24, und_25, sz_61, zero_61, (nr rfl : okLen 0 = true), fld_27_1, sz_25, ag_25, app_25, al_R45Length, q10, zero_27, pl_27, sz_27, ENMB]
     refine Mir.use (e := e) ?_ h
     refine Mir.seqK (Mir.joinO (fun v104 : R45Table => [U, U, U, U, U, U, .ptr 2 0, U, U, U, .ptr 3 0, U, U, U, U, U, U, U, U, U, U, U, U, U, U, U, U, U, U, U, U, U, U, U, U, U, U]) (fun v104 : R45Table => ⟨[[.d (.int .i64 a0.Work.e0.X), .d (.int .i64 a0.Work.e0.Y), .d (.int .i64 a0.Work.e0.Z), .d (.int .i64 a0.Work.e1.X), .d (.int .i64 a0.Work.e1.Y), .d (.int .i64 a0.Work.e1.Z), .d (.int .i64 a0.Work.e2.X), .d (.int .i64 a0.Work.e2.Y), .d (.int .i64 a0.Work.e2.Z), .d (.int .i64 a0.Work.e3.X), .d (.int .i64 a0.Work.e3.Y), .d (.int .i64 a0.Work.e3.Z), .d (.int .i64 a0.Work.e4.X), .d (.int .i64 a0.Work.e4.Y), .d (.int .i64 a0.Work.e4.Z), .d (.int .i64 a0.Work.e5.X), .d (.int .i64 a0.Work.e5.Y), .d (.int .i64 a0.Work.e5.Z), .d (.list (List.map encR45Length a0.Lengths))], [.d (.int .i64 a2.X), .d (.int .i64 a2.Y), .d (.int .i64 a2.Z)], [.d (.int .i64 0), .d (.int .i64 0), .d (.int .i64 0), .d (.int .i64 0), .d (.int .i64 0), .d (.int .i64 0), .d (.int .i64 0), .d (.int .i64 0), .d (.int .i64 0), .d (.int .i64 0), .d (.int .i64 0), .d (.int .i64 0), .d (.int .i64 0), .d (.int .i64 0), .d (.int .i64 0), .d (.int .i64 0), .d (.int .i64 0), .d (.int .i64 0), .nil], [.d (.int .i64 v104.Work.e0.X), .d (.int .i64 v104.Work.e0.Y), .d (.int .i64 v104.Work.e0.Z), .d (.int .i64 v104.Work.e1.X), .d (.int .i64 v104.Work.e1.Y), .d (.int .i64 v104.Work.e1.Z), .d (.int .i64 v104.Work.e2.X), .d (.int .i64 v104.Work.e2.Y), .d (.int .i64 v104.Work.e2.Z), .d (.int .i64 v104.Work.e3.X), .d (.int .i64 v104.Work.e3.Y), .d (.int .i64 v104.Work.e3.Z), .d (.int .i64 v104.Work.e4.X), .d (.int .i64 v104.Work.e4.Y), .d (.int .i64 v104.Work.e4.Z), .d (.int .i64 v104.Work.e5.X), .d (.int .i64 v104.Work.e5.Y), .d (.int .i64 v104.Work.e5.Z), .d (.list (List.map encR45Length v104.Lengths))]], []⟩) (fun _ => rfl) ?_ ?_)
     ·refine Mir.guard fun qi11 => Mir.ite (fun hb12 => ?_) (fun hb12 => ?_)
      ·refine Mir.region fun e h => ?_
       simp only [↓reduceIte, reduceCtorEq, nA, nS, nM, nE, nL, nT, nB, iT, iN, iE, and_self, SR, SV, ag_23, sz_23, fld_27_0, sz_24, und_24, (eq_of_beq hb12), ENMB, hb12]
       cases h
       simp only [↓reduceIte, reduceCtorEq, nA, nE, nL, and_self, and_true, true_and, SL, ENMB, hb12]
      ·refine Mir.ite (fun hb13 => ?_) (fun hb13 => ?_)
       ·refine Mir.region fun e h => ?_
        simp only [↓reduceIte, reduceCtorEq, nA, nS, nM, nE, nL, nT, nB, iT, iN, iE, and_self, SR, SV, ag_23, sz_23, fld_27_0, sz_24, und_24, (eq_of_beq hb13), ENMB, hb12, hb13]
        cases h
        simp only [↓reduceIte, reduceCtorEq, nA, nE, nL, and_self, and_true, true_and, SL, ENMB, hb12, hb13]
       ·refine Mir.ite (fun hb14 => ?_) (fun hb14 => ?_)
        ·refine Mir.region fun e h => ?_
         simp only [↓reduceIte, reduceCtorEq, nA, nS, nM, nE, nL, nT, nB, iT, iN, iE, and_self, SR, SV, ag_23, sz_23, fld_27_0, sz_24, und_24, (eq_of_beq hb14), ENMB, hb12, hb13, hb14]
         cases h
         simp only [↓reduceIte, reduceCtorEq, nA, nE, nL, and_self, and_true, true_and, SL, ENMB, hb12, hb13, hb14]
        ·refine Mir.ite (fun hb15 => ?_) (fun hb15 => ?_)
         ·refine Mir.region fun e h => ?_
          simp only [↓reduceIte, reduceCtorEq, nA, nS, nM, nE, nL, nT, nB, iT, iN, iE, and_self, SR, SV, ag_23, sz_23, fld_27_0, sz_24, und_24, (eq_of_beq hb15), ENMB, hb12, hb13, hb14, hb15]
          cases h
          simp only [↓reduceIte, reduceCtorEq, nA, nE, nL, and_self, and_true, true_and, SL, ENMB, hb12, hb13, hb14, hb15]
         ·refine Mir.ite (fun hb16 => ?_) (fun hb16 => ?_)
          ·refine Mir.region fun e h => ?_
           simp only [↓reduceIte, reduceCtorEq, nA, nS, nM, nE, nL, nT, nB, iT, iN, iE, and_self, SR, SV, ag_23, sz_23, fld_27_0, sz_24, und_24, (eq_of_beq hb16), ENMB, hb12, hb13, hb14, hb15, hb16]
           cases h
           simp only [↓reduceIte, reduceCtorEq, nA, nE, nL, and_self, and_true, true_and, SL, ENMB, hb12, hb13, hb14, hb15, hb16]
          ·have hz17 : y102 = 5 := by have h0 := of_decide_eq_true qi11; have h1 := ne_of_beq_false hb12; have h2 := ne_of_beq_false hb13; have h3 := ne_of_beq_false hb14; have h4 := ne_of_beq_false hb15; have h5 := ne_of_beq_false hb16; omega
           refine Mir.region fun e h => ?_
           simp only [↓reduceIte, reduceCtorEq, nA, nS, nM, nE, nL, nT, nB, iT, iN, iE, and_self, SR, SV, ag_23, sz_23, fld_27_0, sz_24, und_24, hz17, ENMB, hb12, hb13, hb14, hb15, hb16]
           cases h
           simp only [↓reduceIte, reduceCtorEq, nA, nE, nL, and_self, and_true, true_and, SL, ENMB, hb12, hb13, hb14, hb15, hb16]
     ·intro v104
      refine Mir.toK (Mir.seqK (Mir.region fun e h => ?_))
      simp only [↓reduceIte, reduceCtorEq, nA, nS, nM, nE, nL, nT, nB, iT, iN, iE, and_self, SR, SV, ag_27, sz_27, ENMB]
      refine Mir.use (e := e) ?_ h
      refine Mir.ret fun e h => ?_
      cases h
      simp only [↓reduceIte, reduceCtorEq, nA, nE, nL, and_self, and_true, true_and, SL, ENMB, Tryd.results13, ag_27, sz_27]

def r45_SetLength (a0 : R45Table) (a1 : Int) (a2 : Int) : Option (R45Table × Int) :=
  bindO (bindO (r45_Valid a0) fun (y101 : Int) =>
      if (y101 != 0) = true then
        some true
      else
        bindO (r45_entry (R45Length.mk a1 a2)) fun (y102 : Bool) =>
        some (!y102)) fun (v103 : Bool) =>
  if v103 = true then
    some (R45Table.mk (Arr6ApiPos.mk (ApiPos.mk 0 0 0) (ApiPos.mk 0 0 0) (ApiPos.mk 0 0 0) (ApiPos.mk 0 0 0) (ApiPos.mk 0 0 0) (ApiPos.mk 0 0 0)) [], 1)
  else
    bindO (guardO (okIdx a0.Lengths) (
        rangeX (fun (i185 : Nat) (e187 : R45Length) (v186 : Bool × (List R45Length)) =>
          bindO (bindO (if (!v186.1 && (decide (e187.Number ≥ a1))) = true then
                    guardO (okLen (v186.2.length + 1)) (
                    some (true, v186.2 ++ [R45Length.mk a1 a2]))
                  else
                    some (v186.1, v186.2)) fun (v190 : Bool × (List R45Length)) =>
              if (e187.Number != a1) = true then
                guardO (okLen (v190.2.length + 1)) (
                some (v190.1, v190.2 ++ [e187]))
              else
                some (v190.1, v190.2)) fun (v189 : Bool × (List R45Length)) =>
          some (.go (v189.1, v189.2))) (fun (v186 : Bool × (List R45Length)) => some (v186.1, v186.2)) a0.Lengths 0 (false, []))) fun (v164 : Bool × (List R45Length)) =>
    bindO (if (!v164.1) = true then
          guardO (okLen (v164.2.length + 1)) (
          some (v164.2 ++ [R45Length.mk a1 a2]))
        else
          some v164.2) fun (v191 : (List R45Length)) =>
    some (R45Table.mk a0.Work v191, 0)
theorem r45_SetLength_spec {a0 : R45Table} {a1 : Int} {a2 : Int} {y : R45Table × Int} (h : r45_SetLength a0 a1 a2 = some y) : Spec gP 18 [.agg [.d (.int .i64 a0.Work.e0.X), .d (.int .i64 a0.Work.e0.Y), .d (.int .i64 a0.Work.e0.Z), .d (.int .i64 a0.Work.e1.X), .d (.int .i64 a0.Work.e1.Y), .d (.int .i64 a0.Work.e1.Z), .d (.int .i64 a0.Work.e2.X), .d (.int .i64 a0.Work.e2.Y), .d (.int .i64 a0.Work.e2.Z), .d (.int .i64 a0.Work.e3.X), .d (.int .i64 a0.Work.e3.Y), .d (.int .i64 a0.Work.e3.Z), .d (.int .i64 a0.Work.e4.X), .d (.int .i64 a0.Work.e4.Y), .d (.int .i64 a0.Work.e4.Z), .d (.int .i64 a0.Work.e5.X), .d (.int .i64 a0.Work.e5.Y), .d (.int .i64 a0.Work.e5.Z), .d (.list (List.map encR45Length a0.Lengths))], .d (.int .i64 a1), .d (.int .i64 a2)] (.tuple [.agg [.d (.int .i64 y.1.Work.e0.X), .d (.int .i64 y.1.Work.e0.Y), .d (.int .i64 y.1.Work.e0.Z), .d (.int .i64 y.1.Work.e1.X), .d (.int .i64 y.1.Work.e1.Y), .d (.int .i64 y.1.Work.e1.Z), .d (.int .i64 y.1.Work.e2.X), .d (.int .i64 y.1.Work.e2.Y), .d (.int .i64 y.1.Work.e2.Z), .d (.int .i64 y.1.Work.e3.X), .d (.int .i64 y.1.Work.e3.Y), .d (.int .i64 y.1.Work.e3.Z), .d (.int .i64 y.1.Work.e4.X), .d (.int .i64 y.1.Work.e4.Y), .d (.int .i64 y.1.Work.e4.Z), .d (.int .i64 y.1.Work.e5.X), .d (.int .i64 y.1.Work.e5.Y), .d (.int .i64 y.1.Work.e5.Z), .d (.list (List.map encR45Length y.1.Lengths))], .d (.int .i64 y.2)]) := by
  refine spec_mir Tryd.func18 rfl (by kernel_rfl) (by kernel_rfl) (fun y : R45Table × Int => .tuple [.agg [.d (.int .i64 y.1.Work.e0.X), .d (.int .i64 y.1.Work.e0.Y), .d (.int .i64 y.1.Work.e0.Z), .d (.int .i64 y.1.Work.e1.X), .d (.int .i64 y.1.Work.e1.Y), .d (.int .i64 y.1.Work.e1.Z), .d (.int .i64 y.1.Work.e2.X), .d (.int .i64 y.1.Work.e2.Y), .d (.int .i64 y.1.Work.e2.Z), .d (.int .i64 y.1.Work.e3.X), .d (.int .i64 y.1.Work.e3.Y), .d (.int .i64 y.1.Work.e3.Z), .d (.int .i64 y.1.Work.e4.X), .d (.int .i64 y.1.Work.e4.Y), .d (.int .i64 y.1.Work.e4.Z), .d (.int .i64 y.1.Work.e5.X), .d (.int .i64 y.1.Work.e5.Y), .d (.int .i64 y.1.Work.e5.Z), .d (.list (List.map encR45Length y.1.Lengths))], .d (.int .i64 y.2)]) ?_ h
  unfold r45_SetLength
  simp only [List.replicate, List.length, nS, nA, Tryd.ntmps18, SV]
  refine Mir.seqK (Mir.region fun e h => ?_)
  simp only [↓reduceIte, reduceCtorEq, nA, nS, nM, nE, nL, nT, nB, iT, iN, iE, and_self, SR, SV, zero_27, ENMB]
  refine Mir.use (e := e) ?_ h
  refine Mir.seqK (Mir.seqK (Mir.joinO (fun v103 : Bool => [U, .d (.int .i64 a1), .d (.int .i64 a2), .ptr 0 0, U, U, .ptr 1 0, U, U, U, U, U, U, U, U, U, U, U, U, U, U, .d (.bool v103), U, U, U, U, U, U, U, U, U, U, U, U, U, U, U, U, U, U, U, U, U, U, U, U, U, U, U, U, U, U, U, U, U, U, U, U, U, U, U, U, U, U, U, U, U, U, U, U, U, U, U, U, U]) (fun v103 : Bool => ⟨[[.d (.int .i64 a0.Work.e0.X), .d (.int .i64 a0.Work.e0.Y), .d (.int .i64 a0.Work.e0.Z), .d (.int .i64 a0.Work.e1.X), .d (.int .i64 a0.Work.e1.Y), .d (.int .i64 a0.Work.e1.Z), .d (.int .i64 a0.Work.e2.X), .d (.int .i64 a0.Work.e2.Y), .d (.int .i64 a0.Work.e2.Z), .d (.int .i64 a0.Work.e3.X), .d (.int .i64 a0.Work.e3.Y), .d (.int .i64 a0.Work.e3.Z), .d (.int .i64 a0.Work.e4.X), .d (.int .i64 a0.Work.e4.Y), .d (.int .i64 a0.Work.e4.Z), .d (.int .i64 a0.Work.e5.X), .d (.int .i64 a0.Work.e5.Y), .d (.int .i64 a0.Work.e5.Z), .d (.list (List.map encR45Length a0.Lengths))], [.d (.int .i64 0), .d (.int .i64 0), .d (.int .i64 0), .d (.int .i64 0), .d (.int .i64 0), .d (.int .i64 0), .d (.int .i64 0), .d (.int .i64 0), .d (.int .i64 0), .d (.int .i64 0), .d (.int .i64 0), .d (.int .i64 0), .d (.int .i64 0), .d (.int .i64 0), .d (.int .i64 0), .d (.int .i64 0), .d (.int .i64 0), .d (.int .i64 0), .nil]], []⟩) (fun _ => rfl) ?_ ?_))
  ·refine Mir.bind fun y101 hy1 => Mir.ite (fun hb2 => ?_) (fun hb2 => ?_)
   ·refine Mir.region fun e h => ?_
    simp only [↓reduceIte, reduceCtorEq, nA, nS, nM, nE, nL, nT, nB, iT, iN, iE, and_self, SR, SV, ag_27, sz_27, ENMB, hb2]
    refine SpecS.by (r45_Valid_spec hy1) (by simp only [↓reduceIte, reduceCtorEq, nA, nE, nL, and_self, and_true, true_and, SL, ENMB, hb2]) ?_
    simp only [↓reduceIte, reduceCtorEq, nA, nS, nM, nE, nL, nT, nB, iT, iN, iE, and_self, SR, SV, ENMB, hb2]
    cases h
    simp only [↓reduceIte, reduceCtorEq, nA, nE, nL, and_self, and_true, true_and, SL, ENMB, hb2]
   ·refine Mir.bind fun y102 hy3 => Mir.region fun e h => ?_
    simp only [↓reduceIte, reduceCtorEq, nA, nS, nM, nE, nL, nT, nB, iT, iN, iE, and_self, SR, SV, ag_27, sz_27, ENMB, hb2]
    refine SpecS.by (r45_Valid_spec hy1) (by simp only [↓reduceIte, reduceCtorEq, nA, nE, nL, and_self, and_true, true_and, SL, ENMB, hb2]) ?_
    simp only [↓reduceIte, reduceCtorEq, nA, nS, nM, nE, nL, nT, nB, iT, iN, iE, and_self, SR, SV, zero_61, pl_61, ENMB, hb2]
    refine SpecS.by (r45_entry_spec hy3) (by simp only [↓reduceIte, reduceCtorEq, nA, nE, nL, and_self, and_true, true_and, SL, ENMB, hb2]) ?_
    simp only [↓reduceIte, reduceCtorEq, nA, nS, nM, nE, nL, nT, nB, iT, iN, iE, and_self, SR, SV, ENMB, hb2]
    cases h
    simp only [↓reduceIte, reduceCtorEq, nA, nE, nL, and_self, and_true, true_and, SL, ENMB, hb2]
  ·intro v103
   refine Mir.toK (Mir.cond rfl (fun hb5 => ?_) (fun hb5 => ?_))
   ·refine Mir.seqK (Mir.region fun e h => ?_)
    simp only [↓reduceIte, reduceCtorEq, nA, nS, nM, nE, nL, nT, nB, iT, iN, iE, and_self, SR, SV, zero_27, pl_27, sz_27, ENMB]
    refine Mir.use (e := e) ?_ h
    refine Mir.ret fun e h => ?_
    cases h
    simp only [↓reduceIte, reduceCtorEq, nA, nE, nL, and_self, and_true, true_and, SL, ENMB, Tryd.results18, ag_27, sz_27]
   ·refine Mir.skip (Mir.toK (Mir.seqK (Mir.region fun e h => ?_)))
    simp only [↓reduceIte, reduceCtorEq, nA, nS, nM, nE, nL, nT, nB, iT, iN, iE, and_self, SR, SV, fld_27_0, sz_24, ag_24, zero_27, pl_27, sz_27, ENMB]
    refine Mir.use (e := e) ?_ h
    refine Mir.seqK (Mir.region fun e h => ?_)
    simp only [↓reduceIte, reduceCtorEq, nA, nS, nM, nE, nL, nT, nB, iT, iN, iE, and_self, SR, SV, ENMB]
    refine Mir.use (e := e) ?_ h
    refine Mir.seqK (Mir.seqK (Mir.region fun e h => ?_))
    simp only [↓reduceIte, reduceCtorEq, nA, nS, nM, nE, nL, nT, nB, iT, iN, iE, and_self, SR, SV, ENMB]
    refine Mir.use (e := e) ?_ h
    refine Mir.gh [.cell 2 18 61] rfl (Mir.joinO (fun v164 : Bool × (List R45Length) => [U, .d (.int .i64 a1), .d (.int .i64 a2), U, U, U, .ptr 1 0, U, .ptr 2 0, .d (.bool v164.1), U, U, U, U, U, U, U, U, U, U, U, U, U, U, U, U, U, U, U, U, U, U, U, U, U, U, U, U, U, U, U, U, U, U, U, U, U, U, U, U, U, U, U, U, U, U, U, U, U, U, U, U, U, U, U, U, U, U, U, U, U, U, U, U, U]) (fun v164 : Bool × (List R45Length) => ⟨[[.d (.int .i64 a0.Work.e0.X), .d (.int .i64 a0.Work.e0.Y), .d (.int .i64 a0.Work.e0.Z), .d (.int .i64 a0.Work.e1.X), .d (.int .i64 a0.Work.e1.Y), .d (.int .i64 a0.Work.e1.Z), .d (.int .i64 a0.Work.e2.X), .d (.int .i64 a0.Work.e2.Y), .d (.int .i64 a0.Work.e2.Z), .d (.int .i64 a0.Work.e3.X), .d (.int .i64 a0.Work.e3.Y), .d (.int .i64 a0.Work.e3.Z), .d (.int .i64 a0.Work.e4.X), .d (.int .i64 a0.Work.e4.Y), .d (.int .i64 a0.Work.e4.Z), .d (.int .i64 a0.Work.e5.X), .d (.int .i64 a0.Work.e5.Y), .d (.int .i64 a0.Work.e5.Z), .d (.list (List.map encR45Length a0.Lengths))], [.d (.int .i64 0), .d (.int .i64 0), .d (.int .i64 0), .d (.int .i64 0), .d (.int .i64 0), .d (.int .i64 0), .d (.int .i64 0), .d (.int .i64 0), .d (.int .i64 0), .d (.int .i64 0), .d (.int .i64 0), .d (.int .i64 0), .d (.int .i64 0), .d (.int .i64 0), .d (.int .i64 0), .d (.int .i64 0), .d (.int .i64 0), .d (.int .i64 0), .nil], [.d (.int .i64 a0.Work.e0.X), .d (.int .i64 a0.Work.e0.Y), .d (.int .i64 a0.Work.e0.Z), .d (.int .i64 a0.Work.e1.X), .d (.int .i64 a0.Work.e1.Y), .d (.int .i64 a0.Work.e1.Z), .d (.int .i64 a0.Work.e2.X), .d (.int .i64 a0.Work.e2.Y), .d (.int .i64 a0.Work.e2.Z), .d (.int .i64 a0.Work.e3.X), .d (.int .i64 a0.Work.e3.Y), .d (.int .i64 a0.Work.e3.Z), .d (.int .i64 a0.Work.e4.X), .d (.int .i64 a0.Work.e4.Y), .d (.int .i64 a0.Work.e4.Z), .d (.int .i64 a0.Work.e5.X), .d (.int .i64 a0.Work.e5.Y), .d (.int .i64 a0.Work.e5.Z), .own 0 (List.map encR45Length v164.2)]], [(61, v164.2.length)]⟩) (fun _ => rfl) ?_ ?_)
    ·refine Mir.block (Mir.guard fun qg204 => Mir.range (fun (i185 : Nat) (v186 : Bool × (List R45Length)) => [U, .d (.int .i64 a1), .d (.int .i64 a2), .ptr 0 0, U, U, .ptr 1 0, U, .ptr 2 0, .d (.bool v186.1), .d (.int .i64 (i185 : Int)), U, U, U, U, U, U, U, U, U, U, U, U, U, U, U, U, U, U, U, U, U, U, U, U, U, U, U, U, U, U, U, U, U, U, U, U, U, U, U, U, U, U, U, U, U, U, U, U, U, U, U, U, U, U, U, U, U, U, U, U, U, U, U, U]) (fun (i185 : Nat) (v186 : Bool × (List R45Length)) => ⟨[[.d (.int .i64 a0.Work.e0.X), .d (.int .i64 a0.Work.e0.Y), .d (.int .i64 a0.Work.e0.Z), .d (.int .i64 a0.Work.e1.X), .d (.int .i64 a0.Work.e1.Y), .d (.int .i64 a0.Work.e1.Z), .d (.int .i64 a0.Work.e2.X), .d (.int .i64 a0.Work.e2.Y), .d (.int .i64 a0.Work.e2.Z), .d (.int .i64 a0.Work.e3.X), .d (.int .i64 a0.Work.e3.Y), .d (.int .i64 a0.Work.e3.Z), .d (.int .i64 a0.Work.e4.X), .d (.int .i64 a0.Work.e4.Y), .d (.int .i64 a0.Work.e4.Z), .d (.int .i64 a0.Work.e5.X), .d (.int .i64 a0.Work.e5.Y), .d (.int .i64 a0.Work.e5.Z), .d (.list (List.map encR45Length a0.Lengths))], [.d (.int .i64 0), .d (.int .i64 0), .d (.int .i64 0), .d (.int .i64 0), .d (.int .i64 0), .d (.int .i64 0), .d (.int .i64 0), .d (.int .i64 0), .d (.int .i64 0), .d (.int .i64 0), .d (.int .i64 0), .d (.int .i64 0), .d (.int .i64 0), .d (.int .i64 0), .d (.int .i64 0), .d (.int .i64 0), .d (.int .i64 0), .d (.int .i64 0), .nil], [.d (.int .i64 a0.Work.e0.X), .d (.int .i64 a0.Work.e0.Y), .d (.int .i64 a0.Work.e0.Z), .d (.int .i64 a0.Work.e1.X), .d (.int .i64 a0.Work.e1.Y), .d (.int .i64 a0.Work.e1.Z), .d (.int .i64 a0.Work.e2.X), .d (.int .i64 a0.Work.e2.Y), .d (.int .i64 a0.Work.e2.Z), .d (.int .i64 a0.Work.e3.X), .d (.int .i64 a0.Work.e3.Y), .d (.int .i64 a0.Work.e3.Z), .d (.int .i64 a0.Work.e4.X), .d (.int .i64 a0.Work.e4.Y), .d (.int .i64 a0.Work.e4.Z), .d (.int .i64 a0.Work.e5.X), .d (.int .i64 a0.Work.e5.Y), .d (.int .i64 a0.Work.e5.Z), .own 0 (List.map encR45Length v186.2)]], [(61, v186.2.length)]⟩) qg204 (fun _ _ => rfl) (by simp only [↓reduceIte, reduceCtorEq, nA, nE, nL, and_self, and_true, true_and, SL, ENMB, (nr rfl : ((0 : Nat) : Int) = 0)]) (by simp only [↓reduceIte, reduceCtorEq, nA, nE, nL, and_self, and_true, true_and, SL, ENMB, (nr rfl : ((0 : Nat) : Int) = 0)]) ?_ ?_)
     ·intro i185 e187 v186 qr202
      refine Mir.seqK (Mir.seqK (Mir.region fun e h => ?_))
      simp only [↓reduceIte, reduceCtorEq, nA, nS, nM, nE, nL, nT, nB, iT, iN, iE, and_self, SR, SV, fld_27_1, sz_25, ag_25, und_25, qr202, ENMB]
      refine Mir.use (e := e) ?_ h
      refine Mir.condT rfl (Mir.skip (Mir.toK (Mir.seqK (Mir.joinO (fun v189 : Bool × (List R45Length) => [U, .d (.int .i64 a1), .d (.int .i64 a2), .ptr 0 0, U, U, .ptr 1 0, U, .ptr 2 0, .d (.bool v189.1), .d (.int .i64 (i185 : Int)), U, U, U, U, U, U, U, U, U, U, U, U, U, U, U, U, U, U, U, U, U, U, U, U, U, U, U, U, U, U, U, U, U, U, U, U, U, U, U, U, U, U, U, U, U, U, U, U, U, U, U, U, U, U, U, U, U, U, U, U, U, U, U, U]) (fun v189 : Bool × (List R45Length) => ⟨[[.d (.int .i64 a0.Work.e0.X), .d (.int .i64 a0.Work.e0.Y), .d (.int .i64 a0.Work.e0.Z), .d (.int .i64 a0.Work.e1.X), .d (.int .i64 a0.Work.e1.Y), .d (.int .i64 a0.Work.e1.Z), .d (.int .i64 a0.Work.e2.X), .d (.int .i64 a0.Work.e2.Y), .d (.int .i64 a0.Work.e2.Z), .d (.int .i64 a0.Work.e3.X), .d (.int .i64 a0.Work.e3.Y), .d (.int .i64 a0.Work.e3.Z), .d (.int .i64 a0.Work.e4.X), .d (.int .i64 a0.Work.e4.Y), .d (.int .i64 a0.Work.e4.Z), .d (.int .i64 a0.Work.e5.X), .d (.int .i64 a0.Work.e5.Y), .d (.int .i64 a0.Work.e5.Z), .d (.list (List.map encR45Length a0.Lengths))], [.d (.int .i64 0), .d (.int .i64 0), .d (.int .i64 0), .d (.int .i64 0), .d (.int .i64 0), .d (.int .i64 0), .d (.int .i64 0), .d (.int .i64 0), .d (.int .i64 0), .d (.int .i64 0), .d (.int .i64 0), .d (.int .i64 0), .d (.int .i64 0), .d (.int .i64 0), .d (.int .i64 0), .d (.int .i64 0), .d (.int .i64 0), .d (.int .i64 0), .nil], [.d (.int .i64 a0.Work.e0.X), .d (.int .i64 a0.Work.e0.Y), .d (.int .i64 a0.Work.e0.Z), .d (.int .i64 a0.Work.e1.X), .d (.int .i64 a0.Work.e1.Y), .d (.int .i64 a0.Work.e1.Z), .d (.int .i64 a0.Work.e2.X), .d (.int .i64 a0.Work.e2.Y), .d (.int .i64 a0.Work.e2.Z), .d (.int .i64 a0.Work.e3.X), .d (.int .i64 a0.Work.e3.Y), .d (.int .i64 a0.Work.e3.Z), .d (.int .i64 a0.Work.e4.X), .d (.int .i64 a0.Work.e4.Y), .d (.int .i64 a0.Work.e4.Z), .d (.int .i64 a0.Work.e5.X), .d (.int .i64 a0.Work.e5.Y), .d (.int .i64 a0.Work.e5.Z), .own 0 (List.map encR45Length v189.2)]], [(61, v189.2.length)]⟩) (fun _ => rfl) ?_ ?_))))
      ·refine Mir.block (Mir.seqK (Mir.region fun e h => ?_))
       simp only [↓reduceIte, reduceCtorEq, nA, nS, nM, nE, nL, nT, nB, iT, iN, iE, and_self, SR, SV, fld_27_1, sz_25, ag_25, und_25, sz_61, qr202, Int.toNat_natCast, ag_61, zero_61, ENMB]
       refine Mir.use (e := e) ?_ h
       refine Mir.seqK (Mir.seqK (Mir.joinV [U, .d (.int .i64 a1), .d (.int .i64 a2), .ptr 0 0, U, U, .ptr 1 0, U, .ptr 2 0, .d (.bool v186.1), .d (.int .i64 (i185 : Int)), .ptr 3 0, U, U, U, U, U, U, U, U, U, U, U, U, U, U, U, U, U, U, U, U, U, U, U, U, U, U, U, U, U, U, U, U, U, .d (.bool (!v186.1 && (decide (e187.Number ≥ a1)))), U, U, U, U, U, U, U, U, U, U, U, U, U, U, U, U, U, U, U, U, U, U, U, U, U, U, U, U, U] ⟨[[.d (.int .i64 a0.Work.e0.X), .d (.int .i64 a0.Work.e0.Y), .d (.int .i64 a0.Work.e0.Z), .d (.int .i64 a0.Work.e1.X), .d (.int .i64 a0.Work.e1.Y), .d (.int .i64 a0.Work.e1.Z), .d (.int .i64 a0.Work.e2.X), .d (.int .i64 a0.Work.e2.Y), .d (.int .i64 a0.Work.e2.Z), .d (.int .i64 a0.Work.e3.X), .d (.int .i64 a0.Work.e3.Y), .d (.int .i64 a0.Work.e3.Z), .d (.int .i64 a0.Work.e4.X), .d (.int .i64 a0.Work.e4.Y), .d (.int .i64 a0.Work.e4.Z), .d (.int .i64 a0.Work.e5.X), .d (.int .i64 a0.Work.e5.Y), .d (.int .i64 a0.Work.e5.Z), .d (.list (List.map encR45Length a0.Lengths))], [.d (.int .i64 0), .d (.int .i64 0), .d (.int .i64 0), .d (.int .i64 0), .d (.int .i64 0), .d (.int .i64 0), .d (.int .i64 0), .d (.int .i64 0), .d (.int .i64 0), .d (.int .i64 0), .d (.int .i64 0), .d (.int .i64 0), .d (.int .i64 0), .d (.int .i64 0), .d (.int .i64 0), .d (.int .i64 0), .d (.int .i64 0), .d (.int .i64 0), .nil], [.d (.int .i64 a0.Work.e0.X), .d (.int .i64 a0.Work.e0.Y), .d (.int .i64 a0.Work.e0.Z), .d (.int .i64 a0.Work.e1.X), .d (.int .i64 a0.Work.e1.Y), .d (.int .i64 a0.Work.e1.Z), .d (.int .i64 a0.Work.e2.X), .d (.int .i64 a0.Work.e2.Y), .d (.int .i64 a0.Work.e2.Z), .d (.int .i64 a0.Work.e3.X), .d (.int .i64 a0.Work.e3.Y), .d (.int .i64 a0.Work.e3.Z), .d (.int .i64 a0.Work.e4.X), .d (.int .i64 a0.Work.e4.Y), .d (.int .i64 a0.Work.e4.Z), .d (.int .i64 a0.Work.e5.X), .d (.int .i64 a0.Work.e5.Y), .d (.int .i64 a0.Work.e5.Z), .own 0 (List.map encR45Length v186.2)], [.d (.int .i64 e187.Number), .d (.int .i64 e187.Length)]], [(61, v186.2.length)]⟩ rfl ?_ ?_))
       ·refine SWs.region ?_
        rcases Bool.eq_false_or_eq_true (v186.1) with hb212 | hb212
        ·simp only [↓reduceIte, reduceCtorEq, nA, nS, nM, nE, nL, nT, nB, iT, iN, iE, and_self, SR, SV, SL, PB, hb212, ENMB]
        ·simp only [↓reduceIte, reduceCtorEq, nA, nS, nM, nE, nL, nT, nB, iT, iN, iE, and_self, SR, SV, SL, PB, fld_61_0, sz_2, ag_2, hb212, ENMB]
       ·refine Mir.toK (Mir.joinO (fun v190 : Bool × (List R45Length) => [U, .d (.int .i64 a1), .d (.int .i64 a2), .ptr 0 0, U, U, .ptr 1 0, U, .ptr 2 0, .d (.bool v190.1), .d (.int .i64 (i185 : Int)), .ptr 3 0, U, U, U, U, U, U, U, U, U, U, U, U, U, U, U, U, U, U, U, U, U, U, U, U, U, U, U, U, U, U, U, U, U, U, U, U, U, U, U, U, U, U, U, U, U, U, U, U, U, U, U, U, U, U, U, U, U, U, U, U, U, U, U]) (fun v190 : Bool × (List R45Length) => ⟨[[.d (.int .i64 a0.Work.e0.X), .d (.int .i64 a0.Work.e0.Y), .d (.int .i64 a0.Work.e0.Z), .d (.int .i64 a0.Work.e1.X), .d (.int .i64 a0.Work.e1.Y), .d (.int .i64 a0.Work.e1.Z), .d (.int .i64 a0.Work.e2.X), .d (.int .i64 a0.Work.e2.Y), .d (.int .i64 a0.Work.e2.Z), .d (.int .i64 a0.Work.e3.X), .d (.int .i64 a0.Work.e3.Y), .d (.int .i64 a0.Work.e3.Z), .d (.int .i64 a0.Work.e4.X), .d (.int .i64 a0.Work.e4.Y), .d (.int .i64 a0.Work.e4.Z), .d (.int .i64 a0.Work.e5.X), .d (.int .i64 a0.Work.e5.Y), .d (.int .i64 a0.Work.e5.Z), .d (.list (List.map encR45Length a0.Lengths))], [.d (.int .i64 0), .d (.int .i64 0), .d (.int .i64 0), .d (.int .i64 0), .d (.int .i64 0), .d (.int .i64 0), .d (.int .i64 0), .d (.int .i64 0), .d (.int .i64 0), .d (.int .i64 0), .d (.int .i64 0), .d (.int .i64 0), .d (.int .i64 0), .d (.int .i64 0), .d (.int .i64 0), .d (.int .i64 0), .d (.int .i64 0), .d (.int .i64 0), .nil], [.d (.int .i64 a0.Work.e0.X), .d (.int .i64 a0.Work.e0.Y), .d (.int .i64 a0.Work.e0.Z), .d (.int .i64 a0.Work.e1.X), .d (.int .i64 a0.Work.e1.Y), .d (.int .i64 a0.Work.e1.Z), .d (.int .i64 a0.Work.e2.X), .d (.int .i64 a0.Work.e2.Y), .d (.int .i64 a0.Work.e2.Z), .d (.int .i64 a0.Work.e3.X), .d (.int .i64 a0.Work.e3.Y), .d (.int .i64 a0.Work.e3.Z), .d (.int .i64 a0.Work.e4.X), .d (.int .i64 a0.Work.e4.Y), .d (.int .i64 a0.Work.e4.Z), .d (.int .i64 a0.Work.e5.X), .d (.int .i64 a0.Work.e5.Y), .d (.int .i64 a0.Work.e5.Z), .own 0 (List.map encR45Length v190.2)], [.d (.int .i64 e187.Number), .d (.int .i64 e187.Length)]], [(61, v190.2.length)]⟩) (fun _ => rfl) ?_ ?_)
        ·refine Mir.cond rfl (fun hb215 => ?_) (fun hb215 => ?_)
         ·refine Mir.guard fun q216 => Mir.region fun e h => ?_
          simp only [↓reduceIte, reduceCtorEq, nA, nS, nM, nE, nL, nT, nB, iT, iN, iE, and_self, SR, SV, fld_27_1, sz_25, ag_25, zero_61, pl_61, und_25, sz_61, (nr rfl : okLen 2 = true), app_25, al_R45Length, q216, ENMB]
          cases h
          simp only [↓reduceIte, reduceCtorEq, nA, nE, nL, and_self, and_true, true_and, SL, ENMB, Tryd.results18, ag_27, sz_27]
         ·refine Mir.skip fun e h => ?_
          cases h
          simp only [↓reduceIte, reduceCtorEq, nA, nE, nL, and_self, and_true, true_and, SL, ENMB, Tryd.results18, ag_27, sz_27]
        ·intro v190
         refine Mir.toK (Mir.seqK (Mir.region fun e h => ?_))
         simp only [↓reduceIte, reduceCtorEq, nA, nS, nM, nE, nL, nT, nB, iT, iN, iE, and_self, SR, SV, fld_61_0, sz_2, ag_2, ENMB]
         refine Mir.use (e := e) ?_ h
         refine Mir.cond rfl (fun hb217 => ?_) (fun hb217 => ?_)
         ·refine Mir.guard fun q218 => Mir.region fun e h => ?_
          simp only [↓reduceIte, reduceCtorEq, nA, nS, nM, nE, nL, nT, nB, iT, iN, iE, and_self, SR, SV, fld_27_1, sz_25, ag_25, ag_61, sz_61, und_25, zero_61, (nr rfl : okLen 2 = true), app_25, al_R45Length, q218, ENMB]
          cases h
          simp only [↓reduceIte, reduceCtorEq, nA, nE, nL, and_self, and_true, true_and, SL, ENMB, Tryd.results18, ag_27, sz_27]
         ·refine Mir.skip fun e h => ?_
          cases h
          simp only [↓reduceIte, reduceCtorEq, nA, nE, nL, and_self, and_true, true_and, SL, ENMB, Tryd.results18, ag_27, sz_27]
      ·intro v189
       refine Mir.toK (Mir.region fun e h => ?_)
       simp only [↓reduceIte, reduceCtorEq, nA, nS, nM, nE, nL, nT, nB, iT, iN, iE, and_self, SR, SV, ENMB]
       cases h
       simp only [↓reduceIte, reduceCtorEq, nA, nE, nL, and_self, and_true, true_and, SL, ENMB, Tryd.results18, ag_27, sz_27, qr202]
     ·intro v186 qd203
      refine Mir.seqK (Mir.seqK (Mir.region fun e h => ?_))
      simp only [↓reduceIte, reduceCtorEq, nA, nS, nM, nE, nL, nT, nB, iT, iN, iE, and_self, SR, SV, fld_27_1, sz_25, ag_25, und_25, qd203, ENMB]
      refine Mir.use (e := e) ?_ h
      refine Mir.condF rfl (Mir.exit fun e h => ?_)
      cases h
      simp only [↓reduceIte, reduceCtorEq, nA, nE, nL, and_self, and_true, true_and, SL, ENMB, Tryd.results18, ag_27, sz_27]
    ·intro v164
     refine Mir.toK (Mir.seqK (Mir.seqK (Mir.region fun e h => ?_)))
     simp only [↓reduceIte, reduceCtorEq, nA, nS, nM, nE, nL, nT, nB, iT, iN, iE, and_self, SR, SV, ENMB]
     refine Mir.use (e := e) ?_ h
     refine Mir.joinO (fun v191 : (List R45Length) => [U, U, U, U, U, U, .ptr 1 0, U, .ptr 2 0, U, U, U, U, U, U, U, U, U, U, U, U, U, U, U, U, U, U, U, U, U, U, U, U, U, U, U, U, U, U, U, U, U, U, U, U, U, U, U, U, U, U, U, U, U, U, U, U, U, U, U, U, U, U, U, U, U, U, U, U, U, U, U, U, U, U]) (fun v191 : (List R45Length) => ⟨[[.d (.int .i64 a0.Work.e0.X), .d (.int .i64 a0.Work.e0.Y), .d (.int .i64 a0.Work.e0.Z), .d (.int .i64 a0.Work.e1.X), .d (.int .i64 a0.Work.e1.Y), .d (.int .i64 a0.Work.e1.Z), .d (.int .i64 a0.Work.e2.X), .d (.int .i64 a0.Work.e2.Y), .d (.int .i64 a0.Work.e2.Z), .d (.int .i64 a0.Work.e3.X), .d (.int .i64 a0.Work.e3.Y), .d (.int .i64 a0.Work.e3.Z), .d (.int .i64 a0.Work.e4.X), .d (.int .i64 a0.Work.e4.Y), .d (.int .i64 a0.Work.e4.Z), .d (.int .i64 a0.Work.e5.X), .d (.int .i64 a0.Work.e5.Y), .d (.int .i64 a0.Work.e5.Z), .d (.list (List.map encR45Length a0.Lengths))], [.d (.int .i64 0), .d (.int .i64 0), .d (.int .i64 0), .d (.int .i64 0), .d (.int .i64 0), .d (.int .i64 0), .d (.int .i64 0), .d (.int .i64 0), .d (.int .i64 0), .d (.int .i64 0), .d (.int .i64 0), .d (.int .i64 0), .d (.int .i64 0), .d (.int .i64 0), .d (.int .i64 0), .d (.int .i64 0), .d (.int .i64 0), .d (.int .i64 0), .nil], [.d (.int .i64 a0.Work.e0.X), .d (.int .i64 a0.Work.e0.Y), .d (.int .i64 a0.Work.e0.Z), .d (.int .i64 a0.Work.e1.X), .d (.int .i64 a0.Work.e1.Y), .d (.int .i64 a0.Work.e1.Z), .d (.int .i64 a0.Work.e2.X), .d (.int .i64 a0.Work.e2.Y), .d (.int .i64 a0.Work.e2.Z), .d (.int .i64 a0.Work.e3.X), .d (.int .i64 a0.Work.e3.Y), .d (.int .i64 a0.Work.e3.Z), .d (.int .i64 a0.Work.e4.X), .d (.int .i64 a0.Work.e4.Y), .d (.int .i64 a0.Work.e4.Z), .d (.int .i64 a0.Work.e5.X), .d (.int .i64 a0.Work.e5.Y), .d (.int .i64 a0.Work.e5.Z), .own 0 (List.map encR45Length v191)]], [(61, v191.length)]⟩) (fun _ => rfl) ?_ ?_
     ·refine Mir.cond rfl (fun hb221 => ?_) (fun hb221 => ?_)
      ·refine Mir.guard fun q222 => Mir.region fun e h => ?_
       simp only [↓reduceIte, reduceCtorEq, nA, nS, nM, nE, nL, nT, nB, iT, iN, iE, and_self, SR, SV, fld_27_1, sz_25, ag_25, zero_61, pl_61, und_25, sz_61, (nr rfl : okLen 2 = true), app_25, al_R45Length, q222, ENMB]
       cases h
       simp only [↓reduceIte, reduceCtorEq, nA, nE, nL, and_self, and_true, true_and, SL, ENMB, Tryd.results18, ag_27, sz_27]
      ·refine Mir.skip fun e h => ?_
       cases h
       simp only [↓reduceIte, reduceCtorEq, nA, nE, nL, and_self, and_true, true_and, SL, ENMB, Tryd.results18, ag_27, sz_27]
     ·intro v191
      refine Mir.toK (Mir.seqK (Mir.region fun e h => ?_))
      simp only [↓reduceIte, reduceCtorEq, nA, nS, nM, nE, nL, nT, nB, iT, iN, iE, and_self, SR, SV, ag_27, sz_27, ENMB]
      refine Mir.use (e := e) ?_ h
      refine Mir.ret fun e h => ?_
      cases h
      simp only [↓reduceIte, reduceCtorEq, nA, nE, nL, and_self, and_true, true_and, SL, ENMB, Tryd.results18, ag_27, sz_27]

def l45_own (a0 : TableTable) : Option R45Table :=
  bindO (guardO (okIdx a0.Lengths) (
      rangeX (fun (i144 : Nat) (e146 : TableLength) (v145 : (List R45Length)) =>
        guardO (okLen (v145.length + 1)) (
        some (.go (v145 ++ [R45Length.mk e146.Number e146.Length])))) (fun (v145 : (List R45Length)) => some v145) a0.Lengths 0 [])) fun (v132 : (List R45Length)) =>
  some (R45Table.mk a0.Work v132)
theorem l45_own_spec {a0 : TableTable} {y : R45Table} (h : l45_own a0 = some y) : Spec gP 16 [.agg [.d (.int .i64 a0.Work.e0.X), .d (.int .i64 a0.Work.e0.Y), .d (.int .i64 a0.Work.e0.Z), .d (.int .i64 a0.Work.e1.X), .d (.int .i64 a0.Work.e1.Y), .d (.int .i64 a0.Work.e1.Z), .d (.int .i64 a0.Work.e2.X), .d (.int .i64 a0.Work.e2.Y), .d (.int .i64 a0.Work.e2.Z), .d (.int .i64 a0.Work.e3.X), .d (.int .i64 a0.Work.e3.Y), .d (.int .i64 a0.Work.e3.Z), .d (.int .i64 a0.Work.e4.X), .d (.int .i64 a0.Work.e4.Y), .d (.int .i64 a0.Work.e4.Z), .d (.int .i64 a0.Work.e5.X), .d (.int .i64 a0.Work.e5.Y), .d (.int .i64 a0.Work.e5.Z), .d (.list (List.map encTableLength a0.Lengths))]] (.agg [.d (.int .i64 y.Work.e0.X), .d (.int .i64 y.Work.e0.Y), .d (.int .i64 y.Work.e0.Z), .d (.int .i64 y.Work.e1.X), .d (.int .i64 y.Work.e1.Y), .d (.int .i64 y.Work.e1.Z), .d (.int .i64 y.Work.e2.X), .d (.int .i64 y.Work.e2.Y), .d (.int .i64 y.Work.e2.Z), .d (.int .i64 y.Work.e3.X), .d (.int .i64 y.Work.e3.Y), .d (.int .i64 y.Work.e3.Z), .d (.int .i64 y.Work.e4.X), .d (.int .i64 y.Work.e4.Y), .d (.int .i64 y.Work.e4.Z), .d (.int .i64 y.Work.e5.X), .d (.int .i64 y.Work.e5.Y), .d (.int .i64 y.Work.e5.Z), .d (.list (List.map encR45Length y.Lengths))]) := by
  refine spec_mir Tryd.func16 rfl (by kernel_rfl) (by kernel_rfl) (fun y : R45Table => .agg [.d (.int .i64 y.Work.e0.X), .d (.int .i64 y.Work.e0.Y), .d (.int .i64 y.Work.e0.Z), .d (.int .i64 y.Work.e1.X), .d (.int .i64 y.Work.e1.Y), .d (.int .i64 y.Work.e1.Z), .d (.int .i64 y.Work.e2.X), .d (.int .i64 y.Work.e2.Y), .d (.int .i64 y.Work.e2.Z), .d (.int .i64 y.Work.e3.X), .d (.int .i64 y.Work.e3.Y), .d (.int .i64 y.Work.e3.Z), .d (.int .i64 y.Work.e4.X), .d (.int .i64 y.Work.e4.Y), .d (.int .i64 y.Work.e4.Z), .d (.int .i64 y.Work.e5.X), .d (.int .i64 y.Work.e5.Y), .d (.int .i64 y.Work.e5.Z), .d (.list (List.map encR45Length y.Lengths))]) ?_ h
  unfold l45_own
  simp only [List.replicate, List.length, nS, nA, Tryd.ntmps16, SV]
  refine Mir.seqK (Mir.region fun e h => ?_)
  simp only [↓reduceIte, reduceCtorEq, nA, nS, nM, nE, nL, nT, nB, iT, iN, iE, and_self, SR, SV, zero_27, ENMB]
  refine Mir.use (e := e) ?_ h
  refine Mir.seqK (Mir.region fun e h => ?_)
  simp only [↓reduceIte, reduceCtorEq, nA, nS, nM, nE, nL, nT, nB, iT, iN, iE, and_self, SR, SV, fld_33_0, sz_24, ag_24, zero_27, pl_27, sz_27, ENMB]
  refine Mir.use (e := e) ?_ h
  refine Mir.seqK (Mir.seqK (Mir.region fun e h => ?_))
  simp only [↓reduceIte, reduceCtorEq, nA, nS, nM, nE, nL, nT, nB, iT, iN, iE, and_self, SR, SV, fld_33_1, sz_31, ag_31, und_31, ENMB]
  refine Mir.use (e := e) ?_ h
  refine Mir.gh [.cell 2 18 61] rfl (Mir.joinO (fun v132 : (List R45Length) => [U, U, .ptr 1 0, .ptr 2 0, U, U, U, U, U, U, U, U, U, U, U, U, U, U, U, U, U, U, U, U, U, U, U, U]) (fun v132 : (List R45Length) => ⟨[[.d (.int .i64 a0.Work.e0.X), .d (.int .i64 a0.Work.e0.Y), .d (.int .i64 a0.Work.e0.Z), .d (.int .i64 a0.Work.e1.X), .d (.int .i64 a0.Work.e1.Y), .d (.int .i64 a0.Work.e1.Z), .d (.int .i64 a0.Work.e2.X), .d (.int .i64 a0.Work.e2.Y), .d (.int .i64 a0.Work.e2.Z), .d (.int .i64 a0.Work.e3.X), .d (.int .i64 a0.Work.e3.Y), .d (.int .i64 a0.Work.e3.Z), .d (.int .i64 a0.Work.e4.X), .d (.int .i64 a0.Work.e4.Y), .d (.int .i64 a0.Work.e4.Z), .d (.int .i64 a0.Work.e5.X), .d (.int .i64 a0.Work.e5.Y), .d (.int .i64 a0.Work.e5.Z), .d (.list (List.map encTableLength a0.Lengths))], [.d (.int .i64 0), .d (.int .i64 0), .d (.int .i64 0), .d (.int .i64 0), .d (.int .i64 0), .d (.int .i64 0), .d (.int .i64 0), .d (.int .i64 0), .d (.int .i64 0), .d (.int .i64 0), .d (.int .i64 0), .d (.int .i64 0), .d (.int .i64 0), .d (.int .i64 0), .d (.int .i64 0), .d (.int .i64 0), .d (.int .i64 0), .d (.int .i64 0), .nil], [.d (.int .i64 a0.Work.e0.X), .d (.int .i64 a0.Work.e0.Y), .d (.int .i64 a0.Work.e0.Z), .d (.int .i64 a0.Work.e1.X), .d (.int .i64 a0.Work.e1.Y), .d (.int .i64 a0.Work.e1.Z), .d (.int .i64 a0.Work.e2.X), .d (.int .i64 a0.Work.e2.Y), .d (.int .i64 a0.Work.e2.Z), .d (.int .i64 a0.Work.e3.X), .d (.int .i64 a0.Work.e3.Y), .d (.int .i64 a0.Work.e3.Z), .d (.int .i64 a0.Work.e4.X), .d (.int .i64 a0.Work.e4.Y), .d (.int .i64 a0.Work.e4.Z), .d (.int .i64 a0.Work.e5.X), .d (.int .i64 a0.Work.e5.Y), .d (.int .i64 a0.Work.e5.Z), .own 0 (List.map encR45Length v132)]], [(61, v132.length)]⟩) (fun _ => rfl) ?_ ?_)
  ·refine Mir.block (Mir.guard fun qg65 => Mir.range (fun (i144 : Nat) (v145 : (List R45Length)) => [U, U, .ptr 1 0, .ptr 2 0, U, U, U, U, U, U, .d (.list (List.map encTableLength a0.Lengths)), .d (.int .i64 (a0.Lengths.length : Int)), .d (.int .i64 (i144 : Int)), U, U, U, U, U, U, U, U, U, U, U, U, U, U, U]) (fun (i144 : Nat) (v145 : (List R45Length)) => ⟨[[.d (.int .i64 a0.Work.e0.X), .d (.int .i64 a0.Work.e0.Y), .d (.int .i64 a0.Work.e0.Z), .d (.int .i64 a0.Work.e1.X), .d (.int .i64 a0.Work.e1.Y), .d (.int .i64 a0.Work.e1.Z), .d (.int .i64 a0.Work.e2.X), .d (.int .i64 a0.Work.e2.Y), .d (.int .i64 a0.Work.e2.Z), .d (.int .i64 a0.Work.e3.X), .d (.int .i64 a0.Work.e3.Y), .d (.int .i64 a0.Work.e3.Z), .d (.int .i64 a0.Work.e4.X), .d (.int .i64 a0.Work.e4.Y), .d (.int .i64 a0.Work.e4.Z), .d (.int .i64 a0.Work.e5.X), .d (.int .i64 a0.Work.e5.Y), .d (.int .i64 a0.Work.e5.Z), .d (.list (List.map encTableLength a0.Lengths))], [.d (.int .i64 0), .d (.int .i64 0), .d (.int .i64 0), .d (.int .i64 0), .d (.int .i64 0), .d (.int .i64 0), .d (.int .i64 0), .d (.int .i64 0), .d (.int .i64 0), .d (.int .i64 0), .d (.int .i64 0), .d (.int .i64 0), .d (.int .i64 0), .d (.int .i64 0), .d (.int .i64 0), .d (.int .i64 0), .d (.int .i64 0), .d (.int .i64 0), .nil], [.d (.int .i64 a0.Work.e0.X), .d (.int .i64 a0.Work.e0.Y), .d (.int .i64 a0.Work.e0.Z), .d (.int .i64 a0.Work.e1.X), .d (.int .i64 a0.Work.e1.Y), .d (.int .i64 a0.Work.e1.Z), .d (.int .i64 a0.Work.e2.X), .d (.int .i64 a0.Work.e2.Y), .d (.int .i64 a0.Work.e2.Z), .d (.int .i64 a0.Work.e3.X), .d (.int .i64 a0.Work.e3.Y), .d (.int .i64 a0.Work.e3.Z), .d (.int .i64 a0.Work.e4.X), .d (.int .i64 a0.Work.e4.Y), .d (.int .i64 a0.Work.e4.Z), .d (.int .i64 a0.Work.e5.X), .d (.int .i64 a0.Work.e5.Y), .d (.int .i64 a0.Work.e5.Z), .own 0 (List.map encR45Length v145)]], [(61, v145.length)]⟩) qg65 (fun _ _ => rfl) (by simp only [↓reduceIte, reduceCtorEq, nA, nE, nL, and_self, and_true, true_and, SL, ENMB, (nr rfl : ((0 : Nat) : Int) = 0)]) (by simp only [↓reduceIte, reduceCtorEq, nA, nE, nL, and_self, and_true, true_and, SL, ENMB, (nr rfl : ((0 : Nat) : Int) = 0)]) ?_ ?_)
   ·intro i144 e146 v145 qr63
    refine Mir.seqK (Mir.region fun e h => ?_)
    simp only [↓reduceIte, reduceCtorEq, nA, nS, nM, nE, nL, nT, nB, iT, iN, iE, and_self, SR, SV, qr63, ENMB]
    refine Mir.use (e := e) ?_ h
    refine Mir.seqK (Mir.condT rfl (Mir.skip (Mir.toK (Mir.seqK (Mir.block (Mir.seqK (Mir.region fun e h => ?_)))))))
    simp only [↓reduceIte, reduceCtorEq, nA, nS, nM, nE, nL, nT, nB, iT, iN, iE, and_self, SR, SV, und_31, sz_48, qr63, Int.toNat_natCast, ag_48, zero_48, ENMB]
    refine Mir.use (e := e) ?_ h
    refine Mir.guard fun q67 => Mir.region fun e h => ?_
    simp only [↓reduceIte, reduceCtorEq, nA, nS, nM, nE, nL, nT, nB, iT, iN, iE, and_self, SR, SV, fld_27_1, sz_25, ag_25, fld_48_0, sz_2, ag_2, fld_48_1, zero_61, pl_61, und_25, sz_61, (nr rfl : okLen 2 = true), app_25, al_R45Length, q67, ENMB]
    refine Mir.use (e := e) ?_ h
    refine Mir.region fun e h => ?_
    simp only [↓reduceIte, reduceCtorEq, nA, nS, nM, nE, nL, nT, nB, iT, iN, iE, and_self, SR, SV, ENMB]
    cases h
    simp only [↓reduceIte, reduceCtorEq, nA, nE, nL, and_self, and_true, true_and, SL, ENMB, Tryd.results16, ag_27, sz_27, qr63]
   ·intro v145 qd64
    refine Mir.seqK (Mir.region fun e h => ?_)
    simp only [↓reduceIte, reduceCtorEq, nA, nS, nM, nE, nL, nT, nB, iT, iN, iE, and_self, SR, SV, qd64, ENMB]
    refine Mir.use (e := e) ?_ h
    refine Mir.seqK (Mir.condF rfl (Mir.exit fun e h => ?_))
    cases h
    simp only [↓reduceIte, reduceCtorEq, nA, nE, nL, and_self, and_true, true_and, SL, ENMB, Tryd.results16, ag_27, sz_27]
  ·intro v132
   refine Mir.toK (Mir.seqK (Mir.region fun e h => ?_))
   simp only [↓reduceIte, reduceCtorEq, nA, nS, nM, nE, nL, nT, nB, iT, iN, iE, and_self, SR, SV, ag_27, sz_27, ENMB]
   refine Mir.use (e := e) ?_ h
   refine Mir.ret fun e h => ?_
   cases h
   simp only [↓reduceIte, reduceCtorEq, nA, nE, nL, and_self, and_true, true_and, SL, ENMB, Tryd.results16, ag_27, sz_27]

def l45_theirs (a0 : R45Table) : Option TableTable :=
  bindO (guardO (okIdx a0.Lengths) (
      rangeX (fun (i144 : Nat) (e146 : R45Length) (v145 : (List TableLength)) =>
        guardO (okLen (v145.length + 1)) (
        some (.go (v145 ++ [TableLength.mk e146.Number e146.Length])))) (fun (v145 : (List TableLength)) => some v145) a0.Lengths 0 [])) fun (v132 : (List TableLength)) =>
  some (TableTable.mk a0.Work v132)
theorem l45_theirs_spec {a0 : R45Table} {y : TableTable} (h : l45_theirs a0 = some y) : Spec gP 10 [.agg [.d (.int .i64 a0.Work.e0.X), .d (.int .i64 a0.Work.e0.Y), .d (.int .i64 a0.Work.e0.Z), .d (.int .i64 a0.Work.e1.X), .d (.int .i64 a0.Work.e1.Y), .d (.int .i64 a0.Work.e1.Z), .d (.int .i64 a0.Work.e2.X), .d (.int .i64 a0.Work.e2.Y), .d (.int .i64 a0.Work.e2.Z), .d (.int .i64 a0.Work.e3.X), .d (.int .i64 a0.Work.e3.Y), .d (.int .i64 a0.Work.e3.Z), .d (.int .i64 a0.Work.e4.X), .d (.int .i64 a0.Work.e4.Y), .d (.int .i64 a0.Work.e4.Z), .d (.int .i64 a0.Work.e5.X), .d (.int .i64 a0.Work.e5.Y), .d (.int .i64 a0.Work.e5.Z), .d (.list (List.map encR45Length a0.Lengths))]] (.agg [.d (.int .i64 y.Work.e0.X), .d (.int .i64 y.Work.e0.Y), .d (.int .i64 y.Work.e0.Z), .d (.int .i64 y.Work.e1.X), .d (.int .i64 y.Work.e1.Y), .d (.int .i64 y.Work.e1.Z), .d (.int .i64 y.Work.e2.X), .d (.int .i64 y.Work.e2.Y), .d (.int .i64 y.Work.e2.Z), .d (.int .i64 y.Work.e3.X), .d (.int .i64 y.Work.e3.Y), .d (.int .i64 y.Work.e3.Z), .d (.int .i64 y.Work.e4.X), .d (.int .i64 y.Work.e4.Y), .d (.int .i64 y.Work.e4.Z), .d (.int .i64 y.Work.e5.X), .d (.int .i64 y.Work.e5.Y), .d (.int .i64 y.Work.e5.Z), .d (.list (List.map encTableLength y.Lengths))]) := by
  refine spec_mir Tryd.func10 rfl (by kernel_rfl) (by kernel_rfl) (fun y : TableTable => .agg [.d (.int .i64 y.Work.e0.X), .d (.int .i64 y.Work.e0.Y), .d (.int .i64 y.Work.e0.Z), .d (.int .i64 y.Work.e1.X), .d (.int .i64 y.Work.e1.Y), .d (.int .i64 y.Work.e1.Z), .d (.int .i64 y.Work.e2.X), .d (.int .i64 y.Work.e2.Y), .d (.int .i64 y.Work.e2.Z), .d (.int .i64 y.Work.e3.X), .d (.int .i64 y.Work.e3.Y), .d (.int .i64 y.Work.e3.Z), .d (.int .i64 y.Work.e4.X), .d (.int .i64 y.Work.e4.Y), .d (.int .i64 y.Work.e4.Z), .d (.int .i64 y.Work.e5.X), .d (.int .i64 y.Work.e5.Y), .d (.int .i64 y.Work.e5.Z), .d (.list (List.map encTableLength y.Lengths))]) ?_ h
  unfold l45_theirs
  simp only [List.replicate, List.length, nS, nA, Tryd.ntmps10, SV]
  refine Mir.seqK (Mir.region fun e h => ?_)
  simp only [↓reduceIte, reduceCtorEq, nA, nS, nM, nE, nL, nT, nB, iT, iN, iE, and_self, SR, SV, zero_33, ENMB]
  refine Mir.use (e := e) ?_ h
  refine Mir.seqK (Mir.region fun e h => ?_)
  simp only [↓reduceIte, reduceCtorEq, nA, nS, nM, nE, nL, nT, nB, iT, iN, iE, and_self, SR, SV, fld_27_0, sz_24, ag_24, zero_33, pl_33, sz_33, ENMB]
  refine Mir.use (e := e) ?_ h
  refine Mir.seqK (Mir.seqK (Mir.region fun e h => ?_))
  simp only [↓reduceIte, reduceCtorEq, nA, nS, nM, nE, nL, nT, nB, iT, iN, iE, and_self, SR, SV, fld_27_1, sz_25, ag_25, und_25, ENMB]
  refine Mir.use (e := e) ?_ h
  refine Mir.gh [.cell 2 18 48] rfl (Mir.joinO (fun v132 : (List TableLength) => [U, U, .ptr 1 0, .ptr 2 0, U, U, U, U, U, U, U, U, U, U, U, U, U, U, U, U, U, U, U, U, U, U, U, U]) (fun v132 : (List TableLength) => ⟨[[.d (.int .i64 a0.Work.e0.X), .d (.int .i64 a0.Work.e0.Y), .d (.int .i64 a0.Work.e0.Z), .d (.int .i64 a0.Work.e1.X), .d (.int .i64 a0.Work.e1.Y), .d (.int .i64 a0.Work.e1.Z), .d (.int .i64 a0.Work.e2.X), .d (.int .i64 a0.Work.e2.Y), .d (.int .i64 a0.Work.e2.Z), .d (.int .i64 a0.Work.e3.X), .d (.int .i64 a0.Work.e3.Y), .d (.int .i64 a0.Work.e3.Z), .d (.int .i64 a0.Work.e4.X), .d (.int .i64 a0.Work.e4.Y), .d (.int .i64 a0.Work.e4.Z), .d (.int .i64 a0.Work.e5.X), .d (.int .i64 a0.Work.e5.Y), .d (.int .i64 a0.Work.e5.Z), .d (.list (List.map encR45Length a0.Lengths))], [.d (.int .i64 0), .d (.int .i64 0), .d (.int .i64 0), .d (.int .i64 0), .d (.int .i64 0), .d (.int .i64 0), .d (.int .i64 0), .d (.int .i64 0), .d (.int .i64 0), .d (.int .i64 0), .d (.int .i64 0), .d (.int .i64 0), .d (.int .i64 0), .d (.int .i64 0), .d (.int .i64 0), .d (.int .i64 0), .d (.int .i64 0), .d (.int .i64 0), .nil], [.d (.int .i64 a0.Work.e0.X), .d (.int .i64 a0.Work.e0.Y), .d (.int .i64 a0.Work.e0.Z), .d (.int .i64 a0.Work.e1.X), .d (.int .i64 a0.Work.e1.Y), .d (.int .i64 a0.Work.e1.Z), .d (.int .i64 a0.Work.e2.X), .d (.int .i64 a0.Work.e2.Y), .d (.int .i64 a0.Work.e2.Z), .d (.int .i64 a0.Work.e3.X), .d (.int .i64 a0.Work.e3.Y), .d (.int .i64 a0.Work.e3.Z), .d (.int .i64 a0.Work.e4.X), .d (.int .i64 a0.Work.e4.Y), .d (.int .i64 a0.Work.e4.Z), .d (.int .i64 a0.Work.e5.X), .d (.int .i64 a0.Work.e5.Y), .d (.int .i64 a0.Work.e5.Z), .own 0 (List.map encTableLength v132)]], [(48, v132.length)]⟩) (fun _ => rfl) ?_ ?_)
  ·refine Mir.block (Mir.guard fun qg65 => Mir.range (fun (i144 : Nat) (v145 : (List TableLength)) => [U, U, .ptr 1 0, .ptr 2 0, U, U, U, U, U, U, .d (.list (List.map encR45Length a0.Lengths)), .d (.int .i64 (a0.Lengths.length : Int)), .d (.int .i64 (i144 : Int)), U, U, U, U, U, U, U, U, U, U, U, U, U, U, U]) (fun (i144 : Nat) (v145 : (List TableLength)) => ⟨[[.d (.int .i64 a0.Work.e0.X), .d (.int .i64 a0.Work.e0.Y), .d (.int .i64 a0.Work.e0.Z), .d (.int .i64 a0.Work.e1.X), .d (.int .i64 a0.Work.e1.Y), .d (.int .i64 a0.Work.e1.Z), .d (.int .i64 a0.Work.e2.X), .d (.int .i64 a0.Work.e2.Y), .d (.int .i64 a0.Work.e2.Z), .d (.int .i64 a0.Work.e3.X), .d (.int .i64 a0.Work.e3.Y), .d (.int .i64 a0.Work.e3.Z), .d (.int .i64 a0.Work.e4.X), .d (.int .i64 a0.Work.e4.Y), .d (.int .i64 a0.Work.e4.Z), .d (.int .i64 a0.Work.e5.X), .d (.int .i64 a0.Work.e5.Y), .d (.int .i64 a0.Work.e5.Z), .d (.list (List.map encR45Length a0.Lengths))], [.d (.int .i64 0), .d (.int .i64 0), .d (.int .i64 0), .d (.int .i64 0), .d (.int .i64 0), .d (.int .i64 0), .d (.int .i64 0), .d (.int .i64 0), .d (.int .i64 0), .d (.int .i64 0), .d (.int .i64 0), .d (.int .i64 0), .d (.int .i64 0), .d (.int .i64 0), .d (.int .i64 0), .d (.int .i64 0), .d (.int .i64 0), .d (.int .i64 0), .nil], [.d (.int .i64 a0.Work.e0.X), .d (.int .i64 a0.Work.e0.Y), .d (.int .i64 a0.Work.e0.Z), .d (.int .i64 a0.Work.e1.X), .d (.int .i64 a0.Work.e1.Y), .d (.int .i64 a0.Work.e1.Z), .d (.int .i64 a0.Work.e2.X), .d (.int .i64 a0.Work.e2.Y), .d (.int .i64 a0.Work.e2.Z), .d (.int .i64 a0.Work.e3.X), .d (.int .i64 a0.Work.e3.Y), .d (.int .i64 a0.Work.e3.Z), .d (.int .i64 a0.Work.e4.X), .d (.int .i64 a0.Work.e4.Y), .d (.int .i64 a0.Work.e4.Z), .d (.int .i64 a0.Work.e5.X), .d (.int .i64 a0.Work.e5.Y), .d (.int .i64 a0.Work.e5.Z), .own 0 (List.map encTableLength v145)]], [(48, v145.length)]⟩) qg65 (fun _ _ => rfl) (by simp only [↓reduceIte, reduceCtorEq, nA, nE, nL, and_self, and_true, true_and, SL, ENMB, (nr rfl : ((0 : Nat) : Int) = 0)]) (by simp only [↓reduceIte, reduceCtorEq, nA, nE, nL, and_self, and_true, true_and, SL, ENMB, (nr rfl : ((0 : Nat) : Int) = 0)]) ?_ ?_)
   ·intro i144 e146 v145 qr63
    refine Mir.seqK (Mir.region fun e h => ?_)
    simp only [↓reduceIte, reduceCtorEq, nA, nS, nM, nE, nL, nT, nB, iT, iN, iE, and_self, SR, SV, qr63, ENMB]
    refine Mir.use (e := e) ?_ h
    refine Mir.seqK (Mir.condT rfl (Mir.skip (Mir.toK (Mir.seqK (Mir.block (Mir.seqK (Mir.region fun e h => ?_)))))))
    simp only [↓reduceIte, reduceCtorEq, nA, nS, nM, nE, nL, nT, nB, iT, iN, iE, and_self, SR, SV, und_25, sz_61, qr63, Int.toNat_natCast, ag_61, zero_61, ENMB]
    refine Mir.use (e := e) ?_ h
    refine Mir.guard fun q67 => Mir.region fun e h => ?_
    simp only [↓reduceIte, reduceCtorEq, nA, nS, nM, nE, nL, nT, nB, iT, iN, iE, and_self, SR, SV, fld_33_1, sz_31, ag_31, fld_61_0, sz_2, ag_2, fld_61_1, zero_48, pl_48, und_31, sz_48, (nr rfl : okLen 2 = true), app_31, al_TableLength, q67, ENMB]
    refine Mir.use (e := e) ?_ h
    refine Mir.region fun e h => ?_
    simp only [↓reduceIte, reduceCtorEq, nA, nS, nM, nE, nL, nT, nB, iT, iN, iE, and_self, SR, SV, ENMB]
    cases h
    simp only [↓reduceIte, reduceCtorEq, nA, nE, nL, and_self, and_true, true_and, SL, ENMB, Tryd.results10, ag_33, sz_33, qr63]
   ·intro v145 qd64
    refine Mir.seqK (Mir.region fun e h => ?_)
    simp only [↓reduceIte, reduceCtorEq, nA, nS, nM, nE, nL, nT, nB, iT, iN, iE, and_self, SR, SV, qd64, ENMB]
    refine Mir.use (e := e) ?_ h
    refine Mir.seqK (Mir.condF rfl (Mir.exit fun e h => ?_))
    cases h
    simp only [↓reduceIte, reduceCtorEq, nA, nE, nL, and_self, and_true, true_and, SL, ENMB, Tryd.results10, ag_33, sz_33]
  ·intro v132
   refine Mir.toK (Mir.seqK (Mir.region fun e h => ?_))
   simp only [↓reduceIte, reduceCtorEq, nA, nS, nM, nE, nL, nT, nB, iT, iN, iE, and_self, SR, SV, ag_33, sz_33, ENMB]
   refine Mir.use (e := e) ?_ h
   refine Mir.ret fun e h => ?_
   cases h
   simp only [↓reduceIte, reduceCtorEq, nA, nE, nL, and_self, and_true, true_and, SL, ENMB, Tryd.results10, ag_33, sz_33]

def r45_Same (a0 : R45Table) (a1 : R45Table) : Option Bool :=
  if (!((a0.Work.e0.X == a1.Work.e0.X) && ((a0.Work.e0.Y == a1.Work.e0.Y) && ((a0.Work.e0.Z == a1.Work.e0.Z) && ((a0.Work.e1.X == a1.Work.e1.X) && ((a0.Work.e1.Y == a1.Work.e1.Y) && ((a0.Work.e1.Z == a1.Work.e1.Z) && ((a0.Work.e2.X == a1.Work.e2.X) && ((a0.Work.e2.Y == a1.Work.e2.Y) && ((a0.Work.e2.Z == a1.Work.e2.Z) && ((a0.Work.e3.X == a1.Work.e3.X) && ((a0.Work.e3.Y == a1.Work.e3.Y) && ((a0.Work.e3.Z == a1.Work.e3.Z) && ((a0.Work.e4.X == a1.Work.e4.X) && ((a0.Work.e4.Y == a1.Work.e4.Y) && ((a0.Work.e4.Z == a1.Work.e4.Z) && ((a0.Work.e5.X == a1.Work.e5.X) && ((a0.Work.e5.Y == a1.Work.e5.Y) && (a0.Work.e5.Z == a1.Work.e5.Z)))))))))))))))))) || ((a0.Lengths.length : Int) != (a1.Lengths.length : Int))) = true then
    some false
  else
    bindX (guardO (okIdx a0.Lengths) (
        rangeX (fun (i141 : Nat) (e143 : R45Length) (v142 : Unit) =>
          bindO (gt a1.Lengths (i141 : Int)) fun (e145 : R45Length) =>
          if (!((e143.Number == e145.Number) && (e143.Length == e145.Length))) = true then
            some (.ret (.ret false))
          else
            some (.go ())) (fun (v142 : Unit) => some (.go ())) a0.Lengths 0 ())) fun (v123 : Unit) =>
    some true
theorem r45_Same_spec {a0 : R45Table} {a1 : R45Table} {y : Bool} (h : r45_Same a0 a1 = some y) : Spec gP 15 [.agg [.d (.int .i64 a0.Work.e0.X), .d (.int .i64 a0.Work.e0.Y), .d (.int .i64 a0.Work.e0.Z), .d (.int .i64 a0.Work.e1.X), .d (.int .i64 a0.Work.e1.Y), .d (.int .i64 a0.Work.e1.Z), .d (.int .i64 a0.Work.e2.X), .d (.int .i64 a0.Work.e2.Y), .d (.int .i64 a0.Work.e2.Z), .d (.int .i64 a0.Work.e3.X), .d (.int .i64 a0.Work.e3.Y), .d (.int .i64 a0.Work.e3.Z), .d (.int .i64 a0.Work.e4.X), .d (.int .i64 a0.Work.e4.Y), .d (.int .i64 a0.Work.e4.Z), .d (.int .i64 a0.Work.e5.X), .d (.int .i64 a0.Work.e5.Y), .d (.int .i64 a0.Work.e5.Z), .d (.list (List.map encR45Length a0.Lengths))], .agg [.d (.int .i64 a1.Work.e0.X), .d (.int .i64 a1.Work.e0.Y), .d (.int .i64 a1.Work.e0.Z), .d (.int .i64 a1.Work.e1.X), .d (.int .i64 a1.Work.e1.Y), .d (.int .i64 a1.Work.e1.Z), .d (.int .i64 a1.Work.e2.X), .d (.int .i64 a1.Work.e2.Y), .d (.int .i64 a1.Work.e2.Z), .d (.int .i64 a1.Work.e3.X), .d (.int .i64 a1.Work.e3.Y), .d (.int .i64 a1.Work.e3.Z), .d (.int .i64 a1.Work.e4.X), .d (.int .i64 a1.Work.e4.Y), .d (.int .i64 a1.Work.e4.Z), .d (.int .i64 a1.Work.e5.X), .d (.int .i64 a1.Work.e5.Y), .d (.int .i64 a1.Work.e5.Z), .d (.list (List.map encR45Length a1.Lengths))]] (.d (.bool y)) := by
  refine spec_mir Tryd.func15 rfl (by kernel_rfl) (by kernel_rfl) (fun y : Bool => .d (.bool y)) ?_ h
  unfold r45_Same
  simp only [List.replicate, List.length, nS, nA, Tryd.ntmps15, SV]
  refine Mir.seqK (Mir.region fun e h => ?_)
  simp only [↓reduceIte, reduceCtorEq, nA, nS, nM, nE, nL, nT, nB, iT, iN, iE, and_self, SR, SV, ENMB]
  refine Mir.use (e := e) ?_ h
  refine Mir.seqK (Mir.seqK (Mir.joinV [U, U, .ptr 0 0, .ptr 1 0, U, U, U, U, U, U, U, U, U, U, U, U, U, U, U, .d (.bool (!((a0.Work.e0.X == a1.Work.e0.X) && ((a0.Work.e0.Y == a1.Work.e0.Y) && ((a0.Work.e0.Z == a1.Work.e0.Z) && ((a0.Work.e1.X == a1.Work.e1.X) && ((a0.Work.e1.Y == a1.Work.e1.Y) && ((a0.Work.e1.Z == a1.Work.e1.Z) && ((a0.Work.e2.X == a1.Work.e2.X) && ((a0.Work.e2.Y == a1.Work.e2.Y) && ((a0.Work.e2.Z == a1.Work.e2.Z) && ((a0.Work.e3.X == a1.Work.e3.X) && ((a0.Work.e3.Y == a1.Work.e3.Y) && ((a0.Work.e3.Z == a1.Work.e3.Z) && ((a0.Work.e4.X == a1.Work.e4.X) && ((a0.Work.e4.Y == a1.Work.e4.Y) && ((a0.Work.e4.Z == a1.Work.e4.Z) && ((a0.Work.e5.X == a1.Work.e5.X) && ((a0.Work.e5.Y == a1.Work.e5.Y) && (a0.Work.e5.Z == a1.Work.e5.Z)))))))))))))))))) || ((a0.Lengths.length : Int) != (a1.Lengths.length : Int)))), U, U, U, U, U, U, U, U, U, U, U, U, U, U, U, U, U, U] ⟨[[.d (.int .i64 a0.Work.e0.X), .d (.int .i64 a0.Work.e0.Y), .d (.int .i64 a0.Work.e0.Z), .d (.int .i64 a0.Work.e1.X), .d (.int .i64 a0.Work.e1.Y), .d (.int .i64 a0.Work.e1.Z), .d (.int .i64 a0.Work.e2.X), .d (.int .i64 a0.Work.e2.Y), .d (.int .i64 a0.Work.e2.Z), .d (.int .i64 a0.Work.e3.X), .d (.int .i64 a0.Work.e3.Y), .d (.int .i64 a0.Work.e3.Z), .d (.int .i64 a0.Work.e4.X), .d (.int .i64 a0.Work.e4.Y), .d (.int .i64 a0.Work.e4.Z), .d (.int .i64 a0.Work.e5.X), .d (.int .i64 a0.Work.e5.Y), .d (.int .i64 a0.Work.e5.Z), .d (.list (List.map encR45Length a0.Lengths))], [.d (.int .i64 a1.Work.e0.X), .d (.int .i64 a1.Work.e0.Y), .d (.int .i64 a1.Work.e0.Z), .d (.int .i64 a1.Work.e1.X), .d (.int .i64 a1.Work.e1.Y), .d (.int .i64 a1.Work.e1.Z), .d (.int .i64 a1.Work.e2.X), .d (.int .i64 a1.Work.e2.Y), .d (.int .i64 a1.Work.e2.Z), .d (.int .i64 a1.Work.e3.X), .d (.int .i64 a1.Work.e3.Y), .d (.int .i64 a1.Work.e3.Z), .d (.int .i64 a1.Work.e4.X), .d (.int .i64 a1.Work.e4.Y), .d (.int .i64 a1.Work.e4.Z), .d (.int .i64 a1.Work.e5.X), .d (.int .i64 a1.Work.e5.Y), .d (.int .i64 a1.Work.e5.Z), .d (.list (List.map encR45Length a1.Lengths))]], []⟩ rfl ?_ ?_))
  ·refine SWs.region ?_
   rcases Bool.eq_false_or_eq_true ((a0.Work.e0.X == a1.Work.e0.X) && ((a0.Work.e0.Y == a1.Work.e0.Y) && ((a0.Work.e0.Z == a1.Work.e0.Z) && ((a0.Work.e1.X == a1.Work.e1.X) && ((a0.Work.e1.Y == a1.Work.e1.Y) && ((a0.Work.e1.Z == a1.Work.e1.Z) && ((a0.Work.e2.X == a1.Work.e2.X) && ((a0.Work.e2.Y == a1.Work.e2.Y) && ((a0.Work.e2.Z == a1.Work.e2.Z) && ((a0.Work.e3.X == a1.Work.e3.X) && ((a0.Work.e3.Y == a1.Work.e3.Y) && ((a0.Work.e3.Z == a1.Work.e3.Z) && ((a0.Work.e4.X == a1.Work.e4.X) && ((a0.Work.e4.Y == a1.Work.e4.Y) && ((a0.Work.e4.Z == a1.Work.e4.Z) && ((a0.Work.e5.X == a1.Work.e5.X) && ((a0.Work.e5.Y == a1.Work.e5.Y) && (a0.Work.e5.Z == a1.Work.e5.Z)))))))))))))))))) with hb1 | hb1
   ·simp only [↓reduceIte, reduceCtorEq, nA, nS, nM, nE, nL, nT, nB, iT, iN, iE, and_self, SR, SV, SL, PB, fld_27_0, sz_24, ag_24, gE_24, fld_27_1, sz_25, ag_25, und_25, hb1, ENMB]
   ·simp only [↓reduceIte, reduceCtorEq, nA, nS, nM, nE, nL, nT, nB, iT, iN, iE, and_self, SR, SV, SL, PB, fld_27_0, sz_24, ag_24, gE_24, hb1, ENMB]
  ·refine Mir.toK (Mir.cond rfl (fun hb3 => ?_) (fun hb3 => ?_))
   ·refine Mir.seqK (Mir.region fun e h => ?_)
    simp only [↓reduceIte, reduceCtorEq, nA, nS, nM, nE, nL, nT, nB, iT, iN, iE, and_self, SR, SV, ENMB]
    refine Mir.use (e := e) ?_ h
    refine Mir.ret fun e h => ?_
    cases h
    simp only [↓reduceIte, reduceCtorEq, nA, nE, nL, and_self, and_true, true_and, SL, ENMB, Tryd.results15]
   ·refine Mir.skip (Mir.toK (Mir.seqK (Mir.seqK (Mir.region fun e h => ?_))))
    simp only [↓reduceIte, reduceCtorEq, nA, nS, nM, nE, nL, nT, nB, iT, iN, iE, and_self, SR, SV, ENMB]
    refine Mir.use (e := e) ?_ h
    refine Mir.join (fun v123 : Unit => [U, U, U, U, U, U, U, U, U, U, U, U, U, U, U, U, U, U, U, U, U, U, U, U, U, U, U, U, U, U, U, U, U, U, U, U, U, U]) (fun v123 : Unit => ⟨[[.d (.int .i64 a0.Work.e0.X), .d (.int .i64 a0.Work.e0.Y), .d (.int .i64 a0.Work.e0.Z), .d (.int .i64 a0.Work.e1.X), .d (.int .i64 a0.Work.e1.Y), .d (.int .i64 a0.Work.e1.Z), .d (.int .i64 a0.Work.e2.X), .d (.int .i64 a0.Work.e2.Y), .d (.int .i64 a0.Work.e2.Z), .d (.int .i64 a0.Work.e3.X), .d (.int .i64 a0.Work.e3.Y), .d (.int .i64 a0.Work.e3.Z), .d (.int .i64 a0.Work.e4.X), .d (.int .i64 a0.Work.e4.Y), .d (.int .i64 a0.Work.e4.Z), .d (.int .i64 a0.Work.e5.X), .d (.int .i64 a0.Work.e5.Y), .d (.int .i64 a0.Work.e5.Z), .d (.list (List.map encR45Length a0.Lengths))], [.d (.int .i64 a1.Work.e0.X), .d (.int .i64 a1.Work.e0.Y), .d (.int .i64 a1.Work.e0.Z), .d (.int .i64 a1.Work.e1.X), .d (.int .i64 a1.Work.e1.Y), .d (.int .i64 a1.Work.e1.Z), .d (.int .i64 a1.Work.e2.X), .d (.int .i64 a1.Work.e2.Y), .d (.int .i64 a1.Work.e2.Z), .d (.int .i64 a1.Work.e3.X), .d (.int .i64 a1.Work.e3.Y), .d (.int .i64 a1.Work.e3.Z), .d (.int .i64 a1.Work.e4.X), .d (.int .i64 a1.Work.e4.Y), .d (.int .i64 a1.Work.e4.Z), .d (.int .i64 a1.Work.e5.X), .d (.int .i64 a1.Work.e5.Y), .d (.int .i64 a1.Work.e5.Z), .d (.list (List.map encR45Length a1.Lengths))]], []⟩) (fun _ => rfl) ?_ ?_
    ·refine Mir.block (Mir.guard fun qg68 => Mir.range (fun (i141 : Nat) (v142 : Unit) => [U, U, .ptr 0 0, .ptr 1 0, U, .d (.int .i64 (i141 : Int)), U, U, U, U, U, U, U, U, U, U, U, U, U, U, U, U, U, U, U, U, U, U, U, U, U, U, U, U, U, U, U, U]) (fun (i141 : Nat) (v142 : Unit) => ⟨[[.d (.int .i64 a0.Work.e0.X), .d (.int .i64 a0.Work.e0.Y), .d (.int .i64 a0.Work.e0.Z), .d (.int .i64 a0.Work.e1.X), .d (.int .i64 a0.Work.e1.Y), .d (.int .i64 a0.Work.e1.Z), .d (.int .i64 a0.Work.e2.X), .d (.int .i64 a0.Work.e2.Y), .d (.int .i64 a0.Work.e2.Z), .d (.int .i64 a0.Work.e3.X), .d (.int .i64 a0.Work.e3.Y), .d (.int .i64 a0.Work.e3.Z), .d (.int .i64 a0.Work.e4.X), .d (.int .i64 a0.Work.e4.Y), .d (.int .i64 a0.Work.e4.Z), .d (.int .i64 a0.Work.e5.X), .d (.int .i64 a0.Work.e5.Y), .d (.int .i64 a0.Work.e5.Z), .d (.list (List.map encR45Length a0.Lengths))], [.d (.int .i64 a1.Work.e0.X), .d (.int .i64 a1.Work.e0.Y), .d (.int .i64 a1.Work.e0.Z), .d (.int .i64 a1.Work.e1.X), .d (.int .i64 a1.Work.e1.Y), .d (.int .i64 a1.Work.e1.Z), .d (.int .i64 a1.Work.e2.X), .d (.int .i64 a1.Work.e2.Y), .d (.int .i64 a1.Work.e2.Z), .d (.int .i64 a1.Work.e3.X), .d (.int .i64 a1.Work.e3.Y), .d (.int .i64 a1.Work.e3.Z), .d (.int .i64 a1.Work.e4.X), .d (.int .i64 a1.Work.e4.Y), .d (.int .i64 a1.Work.e4.Z), .d (.int .i64 a1.Work.e5.X), .d (.int .i64 a1.Work.e5.Y), .d (.int .i64 a1.Work.e5.Z), .d (.list (List.map encR45Length a1.Lengths))]], []⟩) qg68 (fun _ _ => rfl) (by simp only [↓reduceIte, reduceCtorEq, nA, nE, nL, and_self, and_true, true_and, SL, ENMB, (nr rfl : ((0 : Nat) : Int) = 0)]) (by simp only [↓reduceIte, reduceCtorEq, nA, nE, nL, and_self, and_true, true_and, SL, ENMB, (nr rfl : ((0 : Nat) : Int) = 0)]) ?_ ?_)
     ·intro i141 e143 v142 qr66
      refine Mir.seqK (Mir.seqK (Mir.region fun e h => ?_))
      simp only [↓reduceIte, reduceCtorEq, nA, nS, nM, nE, nL, nT, nB, iT, iN, iE, and_self, SR, SV, fld_27_1, sz_25, ag_25, und_25, qr66, ENMB]
      refine Mir.use (e := e) ?_ h
      refine Mir.condT rfl (Mir.skip (Mir.toK (Mir.seqK (Mir.block (Mir.seqK (Mir.bind fun e145 q71 => ?_))))))
      replace q71 := gt_ok q71
      simp only [Int.toNat_natCast] at q71
      refine Mir.regionD [] (by kernel_rfl) fun e h => ?_
      simp only [↓reduceIte, reduceCtorEq, nA, nS, nM, nE, nL, nT, nB, iT, iN, iE, and_self, SR, SV, sepL_nil, sepL_cons, sepV_ne, sepV_d, sepV_i, true_and, Bool.and_self, fld_27_1, sz_25, ag_25, und_25, sz_61, qr66, Int.toNat_natCast, ag_61, q71, gE_61, ENMB]
      refine Mir.use (e := e) ?_ h
      refine Mir.cond rfl (fun hb73 => ?_) (fun hb73 => ?_)
      ·refine Mir.seqK (Mir.region fun e h => ?_)
       simp only [↓reduceIte, reduceCtorEq, nA, nS, nM, nE, nL, nT, nB, iT, iN, iE, and_self, SR, SV, ENMB]
       refine Mir.use (e := e) ?_ h
       refine Mir.ret fun e h => ?_
       cases h
       simp only [↓reduceIte, reduceCtorEq, nA, nE, nL, and_self, and_true, true_and, SL, ENMB, Tryd.results15]
      ·refine Mir.skip (Mir.toB (Mir.toK (Mir.region fun e h => ?_)))
       simp only [↓reduceIte, reduceCtorEq, nA, nS, nM, nE, nL, nT, nB, iT, iN, iE, and_self, SR, SV, ENMB]
       cases h
       simp only [↓reduceIte, reduceCtorEq, nA, nE, nL, and_self, and_true, true_and, SL, ENMB, Tryd.results15, qr66]
     ·intro v142 qd67
      refine Mir.seqK (Mir.seqK (Mir.region fun e h => ?_))
      simp only [↓reduceIte, reduceCtorEq, nA, nS, nM, nE, nL, nT, nB, iT, iN, iE, and_self, SR, SV, fld_27_1, sz_25, ag_25, und_25, qd67, ENMB]
      refine Mir.use (e := e) ?_ h
      refine Mir.condF rfl (Mir.exit fun e h => ?_)
      cases h
      simp only [↓reduceIte, reduceCtorEq, nA, nE, nL, and_self, and_true, true_and, SL, ENMB, Tryd.results15]
    ·intro v123
     refine Mir.toK (Mir.seqK (Mir.region fun e h => ?_))
     simp only [↓reduceIte, reduceCtorEq, nA, nS, nM, nE, nL, nT, nB, iT, iN, iE, and_self, SR, SV, ENMB]
     refine Mir.use (e := e) ?_ h
     refine Mir.ret fun e h => ?_
     cases h
     simp only [↓reduceIte, reduceCtorEq, nA, nE, nL, and_self, and_true, true_and, SL, ENMB, Tryd.results15]

def l45_same (a0 : TableTable) (a1 : Int) (a2 : R45Table) (a3 : Int) : Option Bool :=
  bindO (if (a1 == a3) = true then
        bindO (l45_own a0) fun (y101 : R45Table) =>
        bindO (r45_Same y101 a2) fun (y102 : Bool) =>
        some y102
      else
        some false) fun (v103 : Bool) =>
  some v103
theorem l45_same_spec {a0 : TableTable} {a1 : Int} {a2 : R45Table} {a3 : Int} {y : Bool} (h : l45_same a0 a1 a2 a3 = some y) : Spec gP 14 [.agg [.d (.int .i64 a0.Work.e0.X), .d (.int .i64 a0.Work.e0.Y), .d (.int .i64 a0.Work.e0.Z), .d (.int .i64 a0.Work.e1.X), .d (.int .i64 a0.Work.e1.Y), .d (.int .i64 a0.Work.e1.Z), .d (.int .i64 a0.Work.e2.X), .d (.int .i64 a0.Work.e2.Y), .d (.int .i64 a0.Work.e2.Z), .d (.int .i64 a0.Work.e3.X), .d (.int .i64 a0.Work.e3.Y), .d (.int .i64 a0.Work.e3.Z), .d (.int .i64 a0.Work.e4.X), .d (.int .i64 a0.Work.e4.Y), .d (.int .i64 a0.Work.e4.Z), .d (.int .i64 a0.Work.e5.X), .d (.int .i64 a0.Work.e5.Y), .d (.int .i64 a0.Work.e5.Z), .d (.list (List.map encTableLength a0.Lengths))], .d (.int .i64 a1), .agg [.d (.int .i64 a2.Work.e0.X), .d (.int .i64 a2.Work.e0.Y), .d (.int .i64 a2.Work.e0.Z), .d (.int .i64 a2.Work.e1.X), .d (.int .i64 a2.Work.e1.Y), .d (.int .i64 a2.Work.e1.Z), .d (.int .i64 a2.Work.e2.X), .d (.int .i64 a2.Work.e2.Y), .d (.int .i64 a2.Work.e2.Z), .d (.int .i64 a2.Work.e3.X), .d (.int .i64 a2.Work.e3.Y), .d (.int .i64 a2.Work.e3.Z), .d (.int .i64 a2.Work.e4.X), .d (.int .i64 a2.Work.e4.Y), .d (.int .i64 a2.Work.e4.Z), .d (.int .i64 a2.Work.e5.X), .d (.int .i64 a2.Work.e5.Y), .d (.int .i64 a2.Work.e5.Z), .d (.list (List.map encR45Length a2.Lengths))], .d (.int .i64 a3)] (.d (.bool y)) := by
  refine spec_mir Tryd.func14 rfl (by kernel_rfl) (by kernel_rfl) (fun y : Bool => .d (.bool y)) ?_ h
  unfold l45_same
  simp only [List.replicate, List.length, nS, nA, Tryd.ntmps14, SV]
  refine Mir.seqK (Mir.region fun e h => ?_)
  simp only [↓reduceIte, reduceCtorEq, nA, nS, nM, nE, nL, nT, nB, iT, iN, iE, and_self, SR, SV, ENMB]
  refine Mir.use (e := e) ?_ h
  refine Mir.seqK (Mir.joinO (fun v103 : Bool => [U, U, U, U, U, U, U, U, .d (.bool v103), U, U, U, U, U, U, U, U, U]) (fun v103 : Bool => ⟨[[.d (.int .i64 a0.Work.e0.X), .d (.int .i64 a0.Work.e0.Y), .d (.int .i64 a0.Work.e0.Z), .d (.int .i64 a0.Work.e1.X), .d (.int .i64 a0.Work.e1.Y), .d (.int .i64 a0.Work.e1.Z), .d (.int .i64 a0.Work.e2.X), .d (.int .i64 a0.Work.e2.Y), .d (.int .i64 a0.Work.e2.Z), .d (.int .i64 a0.Work.e3.X), .d (.int .i64 a0.Work.e3.Y), .d (.int .i64 a0.Work.e3.Z), .d (.int .i64 a0.Work.e4.X), .d (.int .i64 a0.Work.e4.Y), .d (.int .i64 a0.Work.e4.Z), .d (.int .i64 a0.Work.e5.X), .d (.int .i64 a0.Work.e5.Y), .d (.int .i64 a0.Work.e5.Z), .d (.list (List.map encTableLength a0.Lengths))], [.d (.int .i64 a2.Work.e0.X), .d (.int .i64 a2.Work.e0.Y), .d (.int .i64 a2.Work.e0.Z), .d (.int .i64 a2.Work.e1.X), .d (.int .i64 a2.Work.e1.Y), .d (.int .i64 a2.Work.e1.Z), .d (.int .i64 a2.Work.e2.X), .d (.int .i64 a2.Work.e2.Y), .d (.int .i64 a2.Work.e2.Z), .d (.int .i64 a2.Work.e3.X), .d (.int .i64 a2.Work.e3.Y), .d (.int .i64 a2.Work.e3.Z), .d (.int .i64 a2.Work.e4.X), .d (.int .i64 a2.Work.e4.Y), .d (.int .i64 a2.Work.e4.Z), .d (.int .i64 a2.Work.e5.X), .d (.int .i64 a2.Work.e5.Y), .d (.int .i64 a2.Work.e5.Z), .d (.list (List.map encR45Length a2.Lengths))]], []⟩) (fun _ => rfl) ?_ ?_)
  ·refine Mir.ite (fun hb1 => ?_) (fun hb1 => ?_)
   ·refine Mir.bind fun y101 hy2 => Mir.bind fun y102 hy3 => Mir.regionD [] (by kernel_rfl) fun e h => ?_
    simp only [↓reduceIte, reduceCtorEq, nA, nS, nM, nE, nL, nT, nB, iT, iN, iE, and_self, SR, SV, sepL_nil, sepL_cons, sepV_ne, sepV_d, sepV_i, true_and, Bool.and_self, ag_33, sz_33, ENMB, hb1]
    refine Spec.by (l45_own_spec hy2) (by simp only [↓reduceIte, reduceCtorEq, nA, nE, nL, and_self, and_true, true_and, SL, ENMB, hb1]) ?_
    simp only [↓reduceIte, reduceCtorEq, nA, nS, nM, nE, nL, nT, nB, iT, iN, iE, and_self, SR, SV, sepL_nil, sepL_cons, sepV_ne, sepV_d, sepV_i, true_and, Bool.and_self, ag_27, sz_27, ENMB, hb1]
    refine Spec.by (r45_Same_spec hy3) (by simp only [↓reduceIte, reduceCtorEq, nA, nE, nL, and_self, and_true, true_and, SL, ENMB, hb1]) ?_
    simp only [↓reduceIte, reduceCtorEq, nA, nS, nM, nE, nL, nT, nB, iT, iN, iE, and_self, SR, SV, sepL_nil, sepL_cons, sepV_ne, sepV_d, sepV_i, true_and, Bool.and_self, ENMB, hb1]
    cases h
    simp only [↓reduceIte, reduceCtorEq, nA, nE, nL, and_self, and_true, true_and, SL, ENMB, hb1]
   ·refine Mir.regionD [] (by kernel_rfl) fun e h => ?_
    simp only [↓reduceIte, reduceCtorEq, nA, nS, nM, nE, nL, nT, nB, iT, iN, iE, and_self, SR, SV, sepL_nil, sepL_cons, sepV_ne, sepV_d, sepV_i, true_and, Bool.and_self, ENMB, hb1]
    cases h
    simp only [↓reduceIte, reduceCtorEq, nA, nE, nL, and_self, and_true, true_and, SL, ENMB, hb1]
  ·intro v103
   refine Mir.toK (Mir.ret fun e h => ?_)
   cases h
   simp only [↓reduceIte, reduceCtorEq, nA, nE, nL, and_self, and_true, true_and, SL, ENMB, Tryd.results14]

def slices_Clone_table_Length_table_Length (a0 : List TableLength) : Option (List TableLength) := guardO (okLen a0.length) (some a0)
theorem slices_Clone_table_Length_table_Length_n {c0 : Nat} {y : List TableLength} (h : (some []) = some y) : Spec gP 45 [.d (.other (.slice none 0 c0))] (.d (.list (List.map encTableLength y))) := by
  refine spec_mir Tryd.func45 rfl (by kernel_rfl) (by kernel_rfl) (fun y : List TableLength => .d (.list (List.map encTableLength y))) ?_ h
  simp only [List.replicate, List.length, nS, nA, Tryd.ntmps45, SV]
  refine Mir.seqK ?_
  refine Mir.region fun e h => ?_
  simp only [↓reduceIte, reduceCtorEq, nA, nS, nM, nE, nL, nT, nB, iT, iN, iE, and_self, SR, SV, ENMB]
  refine Mir.use (e := e) ?_ h
  refine Mir.seqK ?_
  refine Mir.seqK ?_
  refine Mir.region fun e h => ?_
  simp only [↓reduceIte, reduceCtorEq, nA, nS, nM, nE, nL, nT, nB, iT, iN, iE, and_self, SR, SV, und_31, ENMB]
  refine Mir.use (e := e) ?_ h
  refine Mir.condT rfl ?_
  refine Mir.seqK ?_
  refine Mir.region fun e h => ?_
  simp only [↓reduceIte, reduceCtorEq, nA, nS, nM, nE, nL, nT, nB, iT, iN, iE, and_self, SR, SV, ENMB]
  refine Mir.use (e := e) ?_ h
  refine Mir.ret fun e h => ?_
  cases h
  simp only [↓reduceIte, reduceCtorEq, nA, nE, nL, and_self, and_true, true_and, SL, ENMB, Tryd.results45]
theorem slices_Clone_table_Length_table_Length_o {p0 : Addr} {c0 : Nat} {y : List TableLength} (h : (some []) = some y) : Spec gP 45 [.d (.other (.slice (some p0) 0 c0))] (.d (.list (List.map encTableLength y))) := by
  refine spec_mir Tryd.func45 rfl (by kernel_rfl) (by kernel_rfl) (fun y : List TableLength => .d (.list (List.map encTableLength y))) ?_ h
  simp only [List.replicate, List.length, nS, nA, Tryd.ntmps45, SV]
  refine Mir.seqK ?_
  refine Mir.region fun e h => ?_
  simp only [↓reduceIte, reduceCtorEq, nA, nS, nM, nE, nL, nT, nB, iT, iN, iE, and_self, SR, SV, ENMB]
  refine Mir.use (e := e) ?_ h
  refine Mir.seqK ?_
  refine Mir.seqK ?_
  refine Mir.region fun e h => ?_
  simp only [↓reduceIte, reduceCtorEq, nA, nS, nM, nE, nL, nT, nB, iT, iN, iE, and_self, SR, SV, und_31, ENMB]
  refine Mir.use (e := e) ?_ h
  refine Mir.condF rfl ?_
  refine Mir.skip ?_
  refine Mir.toK ?_
  refine Mir.seqK ?_
  refine Mir.region fun e h => ?_
  simp only [↓reduceIte, reduceCtorEq, nA, nS, nM, nE, nL, nT, nB, iT, iN, iE, and_self, SR, SV, und_31, sz_48, zero_48, (nr rfl : okLen 0 = true), app_31, al_TableLength, List.all_cons, List.all_nil, ENMB]
  refine Mir.use (e := e) ?_ h
  refine Mir.ret fun e h => ?_
  cases h
  simp only [↓reduceIte, reduceCtorEq, nA, nE, nL, and_self, and_true, true_and, SL, ENMB, Tryd.results45]
theorem slices_Clone_table_Length_table_Length_c {x0 : TableLength} {l0 : List TableLength} {y : List TableLength} (h : (guardO (okLen ((x0 :: l0).length)) (   some (x0 :: l0))) = some y) : Spec gP 45 [.d (.list (List.map encTableLength (x0 :: l0)))] (.d (.list (List.map encTableLength y))) := by
  refine spec_mir Tryd.func45 rfl (by kernel_rfl) (by kernel_rfl) (fun y : List TableLength => .d (.list (List.map encTableLength y))) ?_ h
  simp only [List.replicate, List.length, nS, nA, Tryd.ntmps45, SV]
  refine Mir.seqK ?_
  refine Mir.region fun e h => ?_
  simp only [↓reduceIte, reduceCtorEq, nA, nS, nM, nE, nL, nT, nB, iT, iN, iE, and_self, SR, SV, ENMB]
  refine Mir.use (e := e) ?_ h
  refine Mir.seqK ?_
  refine Mir.seqK ?_
  refine Mir.region fun e h => ?_
  simp only [↓reduceIte, reduceCtorEq, nA, nS, nM, nE, nL, nT, nB, iT, iN, iE, and_self, SR, SV, und_31, ENMB]
  refine Mir.use (e := e) ?_ h
  refine Mir.condF rfl ?_
  refine Mir.skip ?_
  refine Mir.toK ?_
  refine Mir.seqK ?_
  refine Mir.guard fun q1 => ?_
  refine Mir.region fun e h => ?_
  simp only [↓reduceIte, reduceCtorEq, nA, nS, nM, nE, nL, nT, nB, iT, iN, iE, and_self, SR, SV, und_31, sz_48, zero_48, (nr rfl : okLen 0 = true), app_31, al_TableLength, q1, ENMB]
  refine Mir.use (e := e) ?_ h
  refine Mir.ret fun e h => ?_
  cases h
  simp only [↓reduceIte, reduceCtorEq, nA, nE, nL, and_self, and_true, true_and, SL, ENMB, Tryd.results45]
theorem slices_Clone_table_Length_table_Length_spec {a0 : List TableLength} {y : List TableLength} (h : slices_Clone_table_Length_table_Length a0 = some y) : Spec gP 45 [.d (.list (List.map encTableLength a0))] (.d (.list (List.map encTableLength y))) := by
  obtain ⟨hl, h⟩ := guardO_some h
  cases h
  cases a0 with
  | nil =>
    refine Spec.nilcase fun A c => ?_
    cases A with
    | none => exact slices_Clone_table_Length_table_Length_n rfl
    | some p => exact slices_Clone_table_Length_table_Length_o rfl
  | cons x l => exact slices_Clone_table_Length_table_Length_c (by simp only [guardO, hl])
theorem slices_Clone_table_Length_table_Length_Yn {c0 : Nat} {y : List TableLength} (h : (some []) = some y) : SpecY gP 45 [.d (.other (.slice none 0 c0))] 48 (List.map encTableLength y) := by
  refine specY_mir Tryd.func45 rfl (by kernel_rfl) (by kernel_rfl) (fun y : List TableLength => List.map encTableLength y) (sc_map (fun _ => rfl) _) ?_ h
  simp only [List.replicate, List.length, nS, nA, Tryd.ntmps45, SV]
  refine Mir.seqK ?_
  refine Mir.region fun e h => ?_
  simp only [↓reduceIte, reduceCtorEq, nA, nS, nM, nE, nL, nT, nB, iT, iN, iE, and_self, SR, SV, ENMB]
  refine Mir.use (e := e) ?_ h
  refine Mir.seqK ?_
  refine Mir.seqK ?_
  refine Mir.region fun e h => ?_
  simp only [↓reduceIte, reduceCtorEq, nA, nS, nM, nE, nL, nT, nB, iT, iN, iE, and_self, SR, SV, und_31, ENMB]
  refine Mir.use (e := e) ?_ h
  refine Mir.condT rfl ?_
  refine Mir.seqK ?_
  refine Mir.region fun e h => ?_
  simp only [↓reduceIte, reduceCtorEq, nA, nS, nM, nE, nL, nT, nB, iT, iN, iE, and_self, SR, SV, ENMB]
  refine Mir.use (e := e) ?_ h
  refine Mir.ret fun e h => ?_
  cases h
  simp only [↓reduceIte, reduceCtorEq, nA, nE, nL, and_self, and_true, true_and, SL, ENMB, Tryd.results45, fy_r, fy_n, yr_o, yr_n]
theorem slices_Clone_table_Length_table_Length_Yo {p0 : Addr} {c0 : Nat} {y : List TableLength} (h : (some []) = some y) : SpecY gP 45 [.d (.other (.slice (some p0) 0 c0))] 48 (List.map encTableLength y) := by
  refine specY_mir Tryd.func45 rfl (by kernel_rfl) (by kernel_rfl) (fun y : List TableLength => List.map encTableLength y) (sc_map (fun _ => rfl) _) ?_ h
  simp only [List.replicate, List.length, nS, nA, Tryd.ntmps45, SV]
  refine Mir.seqK ?_
  refine Mir.region fun e h => ?_
  simp only [↓reduceIte, reduceCtorEq, nA, nS, nM, nE, nL, nT, nB, iT, iN, iE, and_self, SR, SV, ENMB]
  refine Mir.use (e := e) ?_ h
  refine Mir.seqK ?_
  refine Mir.seqK ?_
  refine Mir.region fun e h => ?_
  simp only [↓reduceIte, reduceCtorEq, nA, nS, nM, nE, nL, nT, nB, iT, iN, iE, and_self, SR, SV, und_31, ENMB]
  refine Mir.use (e := e) ?_ h
  refine Mir.condF rfl ?_
  refine Mir.skip ?_
  refine Mir.toK ?_
  refine Mir.seqK ?_
  refine Mir.regionW fun e h => ?_
  refine regW.alt 0 rfl ?_
  simp only [↓reduceIte, reduceCtorEq, nA, nS, nM, nE, nL, nT, nB, iT, iN, iE, and_self, SR, SV, w_none, w_eq, and_true, true_and, tkS, tk0, tkN, dpS, dp0, ENMB]
  refine alt_emptyOwn app_31 ?_
  refine regW.of ?_
  simp only [↓reduceIte, reduceCtorEq, nA, nS, nM, nE, nL, nT, nB, iT, iN, iE, and_self, SR, SV, w_none, w_eq, and_true, true_and, tkS, tk0, tkN, dpS, dp0, und_31, sz_48, zero_48, (nr rfl : okLen 0 = true), app_31, al_TableLength, ENMB]
  refine Mir.use (e := e) ?_ h
  refine Mir.ret fun e h => ?_
  cases h
  simp only [↓reduceIte, reduceCtorEq, nA, nE, nL, and_self, and_true, true_and, SL, ENMB, Tryd.results45, fy_r, fy_n, yr_o, yr_n]
theorem slices_Clone_table_Length_table_Length_Yc {x0 : TableLength} {l0 : List TableLength} {y : List TableLength} (h : (guardO (okLen (0 + (x0 :: l0).length)) (   some ([] ++ (x0 :: l0)))) = some y) : SpecY gP 45 [.d (.list (List.map encTableLength (x0 :: l0)))] 48 (List.map encTableLength y) := by
  refine specY_mir Tryd.func45 rfl (by kernel_rfl) (by kernel_rfl) (fun y : List TableLength => List.map encTableLength y) (sc_map (fun _ => rfl) _) ?_ h
  simp only [List.replicate, List.length, nS, nA, Tryd.ntmps45, SV]
  refine Mir.seqK ?_
  refine Mir.region fun e h => ?_
  simp only [↓reduceIte, reduceCtorEq, nA, nS, nM, nE, nL, nT, nB, iT, iN, iE, and_self, SR, SV, ENMB]
  refine Mir.use (e := e) ?_ h
  refine Mir.seqK ?_
  refine Mir.seqK ?_
  refine Mir.region fun e h => ?_
  simp only [↓reduceIte, reduceCtorEq, nA, nS, nM, nE, nL, nT, nB, iT, iN, iE, and_self, SR, SV, und_31, ENMB]
  refine Mir.use (e := e) ?_ h
  refine Mir.condF rfl ?_
  refine Mir.skip ?_
  refine Mir.toK ?_
  refine Mir.seqK ?_
  refine Mir.guard fun q1 => ?_
  refine Mir.regionW fun e h => ?_
  refine regW.alt 0 rfl ?_
  simp only [↓reduceIte, reduceCtorEq, nA, nS, nM, nE, nL, nT, nB, iT, iN, iE, and_self, SR, SV, w_none, w_eq, and_true, true_and, tkS, tk0, tkN, dpS, dp0, ENMB]
  refine alt_emptyOwn app_31 ?_
  refine regW.of ?_
  simp only [↓reduceIte, reduceCtorEq, nA, nS, nM, nE, nL, nT, nB, iT, iN, iE, and_self, SR, SV, w_none, w_eq, and_true, true_and, tkS, tk0, tkN, dpS, dp0, und_31, sz_48, zero_48, (nr rfl : okLen 0 = true), app_31, al_TableLength, q1, ENMB]
  refine Mir.use (e := e) ?_ h
  refine Mir.ret fun e h => ?_
  cases h
  simp only [↓reduceIte, reduceCtorEq, nA, nE, nL, and_self, and_true, true_and, SL, ENMB, Tryd.results45, fy_r, fy_n, yr_o, yr_n]
theorem slices_Clone_table_Length_table_Length_specY {a0 : List TableLength} {y : List TableLength} (h : slices_Clone_table_Length_table_Length a0 = some y) : SpecY gP 45 [.d (.list (List.map encTableLength a0))] 48 (List.map encTableLength y) := by
  obtain ⟨hl, h⟩ := guardO_some h
  cases h
  cases a0 with
  | nil =>
    refine SpecY.nilcase fun A c => ?_
    cases A with
    | none => exact slices_Clone_table_Length_table_Length_Yn rfl
    | some p => exact slices_Clone_table_Length_table_Length_Yo rfl
  | cons x l => exact slices_Clone_table_Length_table_Length_Yc (by simp only [guardO, Nat.zero_add, List.nil_append, hl])

def tb_clone (a0 : TableTable) : Option TableTable :=
  bindO (slices_Clone_table_Length_table_Length a0.Lengths) fun (y101 : (List TableLength)) =>
  some (TableTable.mk a0.Work y101)
theorem tb_clone_spec {a0 : TableTable} {y : TableTable} (h : tb_clone a0 = some y) : Spec gP 30 [.agg [.d (.int .i64 a0.Work.e0.X), .d (.int .i64 a0.Work.e0.Y), .d (.int .i64 a0.Work.e0.Z), .d (.int .i64 a0.Work.e1.X), .d (.int .i64 a0.Work.e1.Y), .d (.int .i64 a0.Work.e1.Z), .d (.int .i64 a0.Work.e2.X), .d (.int .i64 a0.Work.e2.Y), .d (.int .i64 a0.Work.e2.Z), .d (.int .i64 a0.Work.e3.X), .d (.int .i64 a0.Work.e3.Y), .d (.int .i64 a0.Work.e3.Z), .d (.int .i64 a0.Work.e4.X), .d (.int .i64 a0.Work.e4.Y), .d (.int .i64 a0.Work.e4.Z), .d (.int .i64 a0.Work.e5.X), .d (.int .i64 a0.Work.e5.Y), .d (.int .i64 a0.Work.e5.Z), .d (.list (List.map encTableLength a0.Lengths))]] (.agg [.d (.int .i64 y.Work.e0.X), .d (.int .i64 y.Work.e0.Y), .d (.int .i64 y.Work.e0.Z), .d (.int .i64 y.Work.e1.X), .d (.int .i64 y.Work.e1.Y), .d (.int .i64 y.Work.e1.Z), .d (.int .i64 y.Work.e2.X), .d (.int .i64 y.Work.e2.Y), .d (.int .i64 y.Work.e2.Z), .d (.int .i64 y.Work.e3.X), .d (.int .i64 y.Work.e3.Y), .d (.int .i64 y.Work.e3.Z), .d (.int .i64 y.Work.e4.X), .d (.int .i64 y.Work.e4.Y), .d (.int .i64 y.Work.e4.Z), .d (.int .i64 y.Work.e5.X), .d (.int .i64 y.Work.e5.Y), .d (.int .i64 y.Work.e5.Z), .d (.list (List.map encTableLength y.Lengths))]) := by
  refine spec_mir Tryd.func30 rfl (by kernel_rfl) (by kernel_rfl) (fun y : TableTable => .agg [.d (.int .i64 y.Work.e0.X), .d (.int .i64 y.Work.e0.Y), .d (.int .i64 y.Work.e0.Z), .d (.int .i64 y.Work.e1.X), .d (.int .i64 y.Work.e1.Y), .d (.int .i64 y.Work.e1.Z), .d (.int .i64 y.Work.e2.X), .d (.int .i64 y.Work.e2.Y), .d (.int .i64 y.Work.e2.Z), .d (.int .i64 y.Work.e3.X), .d (.int .i64 y.Work.e3.Y), .d (.int .i64 y.Work.e3.Z), .d (.int .i64 y.Work.e4.X), .d (.int .i64 y.Work.e4.Y), .d (.int .i64 y.Work.e4.Z), .d (.int .i64 y.Work.e5.X), .d (.int .i64 y.Work.e5.Y), .d (.int .i64 y.Work.e5.Z), .d (.list (List.map encTableLength y.Lengths))]) ?_ h
  unfold tb_clone
  simp only [List.replicate, List.length, nS, nA, Tryd.ntmps30, SV]
  refine Mir.seqK (Mir.region fun e h => ?_)
  simp only [↓reduceIte, reduceCtorEq, nA, nS, nM, nE, nL, nT, nB, iT, iN, iE, and_self, SR, SV, zero_33, ENMB]
  refine Mir.use (e := e) ?_ h
  refine Mir.seqK (Mir.bind fun y101 hy1 => Mir.region fun e h => ?_)
  simp only [↓reduceIte, reduceCtorEq, nA, nS, nM, nE, nL, nT, nB, iT, iN, iE, and_self, SR, SV, fld_33_1, sz_31, ag_31, ENMB]
  refine SpecS.by (slices_Clone_table_Length_table_Length_spec hy1) (by simp only [↓reduceIte, reduceCtorEq, nA, nE, nL, and_self, and_true, true_and, SL, ENMB]) ?_
  simp only [↓reduceIte, reduceCtorEq, nA, nS, nM, nE, nL, nT, nB, iT, iN, iE, and_self, SR, SV, fld_33_1, sz_31, ENMB]
  refine Mir.use (e := e) ?_ h
  refine Mir.seqK (Mir.region fun e h => ?_)
  simp only [↓reduceIte, reduceCtorEq, nA, nS, nM, nE, nL, nT, nB, iT, iN, iE, and_self, SR, SV, ag_33, sz_33, ENMB]
  refine Mir.use (e := e) ?_ h
  refine Mir.ret fun e h => ?_
  cases h
  simp only [↓reduceIte, reduceCtorEq, nA, nE, nL, and_self, and_true, true_and, SL, ENMB, Tryd.results30, ag_33, sz_33]

def tb_SetWork (a0 : TableTable) (a1 : Int) (a2 : ApiPos) : Option (TableTable × Int) :=
  bindO (tb_Valid a0) fun (y101 : Int) =>
  if (y101 != 0) = true then
    some (TableTable.mk (Arr6ApiPos.mk (ApiPos.mk 0 0 0) (ApiPos.mk 0 0 0) (ApiPos.mk 0 0 0) (ApiPos.mk 0 0 0) (ApiPos.mk 0 0 0) (ApiPos.mk 0 0 0)) [], y101)
  else
    bindO (tb_slot a1) fun (y102 : Int × Int) =>
    if (y102.2 != 0) = true then
      some (TableTable.mk (Arr6ApiPos.mk (ApiPos.mk 0 0 0) (ApiPos.mk 0 0 0) (ApiPos.mk 0 0 0) (ApiPos.mk 0 0 0) (ApiPos.mk 0 0 0) (ApiPos.mk 0 0 0)) [], y102.2)
    else
      bindO (tb_far a2) fun (y103 : Bool) =>
      if y103 = true then
        some (TableTable.mk (Arr6ApiPos.mk (ApiPos.mk 0 0 0) (ApiPos.mk 0 0 0) (ApiPos.mk 0 0 0) (ApiPos.mk 0 0 0) (ApiPos.mk 0 0 0) (ApiPos.mk 0 0 0)) [], 11)
      else
        bindO (tb_clone a0) fun (y104 : TableTable) =>
        bindO (guardO (decide (0 ≤ y102.1 ∧ y102.1 < 6)) (
            if (y102.1 == 0) = true then
              some (TableTable.mk (Arr6ApiPos.mk a2 y104.Work.e1 y104.Work.e2 y104.Work.e3 y104.Work.e4 y104.Work.e5) y104.Lengths)
            else
              if (y102.1 == 1) = true then
                some (TableTable.mk (Arr6ApiPos.mk y104.Work.e0 a2 y104.Work.e2 y104.Work.e3 y104.Work.e4 y104.Work.e5) y104.Lengths)
              else
                if (y102.1 == 2) = true then
                  some (TableTable.mk (Arr6ApiPos.mk y104.Work.e0 y104.Work.e1 a2 y104.Work.e3 y104.Work.e4 y104.Work.e5) y104.Lengths)
                else
                  if (y102.1 == 3) = true then
                    some (TableTable.mk (Arr6ApiPos.mk y104.Work.e0 y104.Work.e1 y104.Work.e2 a2 y104.Work.e4 y104.Work.e5) y104.Lengths)
                  else
                    if (y102.1 == 4) = true then
                      some (TableTable.mk (Arr6ApiPos.mk y104.Work.e0 y104.Work.e1 y104.Work.e2 y104.Work.e3 a2 y104.Work.e5) y104.Lengths)
                    else
                      some (TableTable.mk (Arr6ApiPos.mk y104.Work.e0 y104.Work.e1 y104.Work.e2 y104.Work.e3 y104.Work.e4 a2) y104.Lengths))) fun (v105 : TableTable) =>
        some (v105, 0)
theorem tb_SetWork_spec {a0 : TableTable} {a1 : Int} {a2 : ApiPos} {y : TableTable × Int} (h : tb_SetWork a0 a1 a2 = some y) : Spec gP 12 [.agg [.d (.int .i64 a0.Work.e0.X), .d (.int .i64 a0.Work.e0.Y), .d (.int .i64 a0.Work.e0.Z), .d (.int .i64 a0.Work.e1.X), .d (.int .i64 a0.Work.e1.Y), .d (.int .i64 a0.Work.e1.Z), .d (.int .i64 a0.Work.e2.X), .d (.int .i64 a0.Work.e2.Y), .d (.int .i64 a0.Work.e2.Z), .d (.int .i64 a0.Work.e3.X), .d (.int .i64 a0.Work.e3.Y), .d (.int .i64 a0.Work.e3.Z), .d (.int .i64 a0.Work.e4.X), .d (.int .i64 a0.Work.e4.Y), .d (.int .i64 a0.Work.e4.Z), .d (.int .i64 a0.Work.e5.X), .d (.int .i64 a0.Work.e5.Y), .d (.int .i64 a0.Work.e5.Z), .d (.list (List.map encTableLength a0.Lengths))], .d (.int .i64 a1), .agg [.d (.int .i64 a2.X), .d (.int .i64 a2.Y), .d (.int .i64 a2.Z)]] (.tuple [.agg [.d (.int .i64 y.1.Work.e0.X), .d (.int .i64 y.1.Work.e0.Y), .d (.int .i64 y.1.Work.e0.Z), .d (.int .i64 y.1.Work.e1.X), .d (.int .i64 y.1.Work.e1.Y), .d (.int .i64 y.1.Work.e1.Z), .d (.int .i64 y.1.Work.e2.X), .d (.int .i64 y.1.Work.e2.Y), .d (.int .i64 y.1.Work.e2.Z), .d (.int .i64 y.1.Work.e3.X), .d (.int .i64 y.1.Work.e3.Y), .d (.int .i64 y.1.Work.e3.Z), .d (.int .i64 y.1.Work.e4.X), .d (.int .i64 y.1.Work.e4.Y), .d (.int .i64 y.1.Work.e4.Z), .d (.int .i64 y.1.Work.e5.X), .d (.int .i64 y.1.Work.e5.Y), .d (.int .i64 y.1.Work.e5.Z), .d (.list (List.map encTableLength y.1.Lengths))], .d (.int .i64 y.2)]) := by
  refine spec_mir Tryd.func12 rfl (by kernel_rfl) (by kernel_rfl) (fun y : TableTable × Int => .tuple [.agg [.d (.int .i64 y.1.Work.e0.X), .d (.int .i64 y.1.Work.e0.Y), .d (.int .i64 y.1.Work.e0.Z), .d (.int .i64 y.1.Work.e1.X), .d (.int .i64 y.1.Work.e1.Y), .d (.int .i64 y.1.Work.e1.Z), .d (.int .i64 y.1.Work.e2.X), .d (.int .i64 y.1.Work.e2.Y), .d (.int .i64 y.1.Work.e2.Z), .d (.int .i64 y.1.Work.e3.X), .d (.int .i64 y.1.Work.e3.Y), .d (.int .i64 y.1.Work.e3.Z), .d (.int .i64 y.1.Work.e4.X), .d (.int .i64 y.1.Work.e4.Y), .d (.int .i64 y.1.Work.e4.Z), .d (.int .i64 y.1.Work.e5.X), .d (.int .i64 y.1.Work.e5.Y), .d (.int .i64 y.1.Work.e5.Z), .d (.list (List.map encTableLength y.1.Lengths))], .d (.int .i64 y.2)]) ?_ h
  unfold tb_SetWork
  simp only [List.replicate, List.length, nS, nA, Tryd.ntmps12, SV]
  refine Mir.seqK (Mir.region fun e h => ?_)
  simp only [↓reduceIte, reduceCtorEq, nA, nS, nM, nE, nL, nT, nB, iT, iN, iE, and_self, SR, SV, zero_33, ENMB]
  refine Mir.use (e := e) ?_ h
  refine Mir.seqK (Mir.seqK (Mir.bind fun y101 hy1 => Mir.region fun e h => ?_))
  simp only [↓reduceIte, reduceCtorEq, nA, nS, nM, nE, nL, nT, nB, iT, iN, iE, and_self, SR, SV, ag_33, sz_33, ENMB]
  refine SpecS.by (tb_Valid_spec hy1) (by simp only [↓reduceIte, reduceCtorEq, nA, nE, nL, and_self, and_true, true_and, SL, ENMB]) ?_
  simp only [↓reduceIte, reduceCtorEq, nA, nS, nM, nE, nL, nT, nB, iT, iN, iE, and_self, SR, SV, ENMB]
  refine Mir.use (e := e) ?_ h
  refine Mir.seqK (Mir.region fun e h => ?_)
  simp only [↓reduceIte, reduceCtorEq, nA, nS, nM, nE, nL, nT, nB, iT, iN, iE, and_self, SR, SV, ENMB]
  refine Mir.use (e := e) ?_ h
  refine Mir.cond rfl (fun hb3 => ?_) (fun hb3 => ?_)
  ·refine Mir.seqK (Mir.region fun e h => ?_)
   simp only [↓reduceIte, reduceCtorEq, nA, nS, nM, nE, nL, nT, nB, iT, iN, iE, and_self, SR, SV, zero_33, pl_33, sz_33, ENMB]
   refine Mir.use (e := e) ?_ h
   refine Mir.ret fun e h => ?_
   cases h
   simp only [↓reduceIte, reduceCtorEq, nA, nE, nL, and_self, and_true, true_and, SL, ENMB, Tryd.results12, ag_33, sz_33]
  ·refine Mir.skip (Mir.toK (Mir.seqK (Mir.bind fun y102 hy4 => Mir.region fun e h => ?_)))
   simp only [↓reduceIte, reduceCtorEq, nA, nS, nM, nE, nL, nT, nB, iT, iN, iE, and_self, SR, SV, ENMB]
   refine SpecS.by (tb_slot_spec hy4) (by simp only [↓reduceIte, reduceCtorEq, nA, nE, nL, and_self, and_true, true_and, SL, ENMB]) ?_
   simp only [↓reduceIte, reduceCtorEq, nA, nS, nM, nE, nL, nT, nB, iT, iN, iE, and_self, SR, SV, ENMB]
   refine Mir.use (e := e) ?_ h
   refine Mir.seqK (Mir.seqK (Mir.region fun e h => ?_))
   simp only [↓reduceIte, reduceCtorEq, nA, nS, nM, nE, nL, nT, nB, iT, iN, iE, and_self, SR, SV, ENMB]
   refine Mir.use (e := e) ?_ h
   refine Mir.cond rfl (fun hb6 => ?_) (fun hb6 => ?_)
   ·refine Mir.seqK (Mir.region fun e h => ?_)
    simp only [↓reduceIte, reduceCtorEq, nA, nS, nM, nE, nL, nT, nB, iT, iN, iE, and_self, SR, SV, zero_33, pl_33, sz_33, ENMB]
    refine Mir.use (e := e) ?_ h
    refine Mir.ret fun e h => ?_
    cases h
    simp only [↓reduceIte, reduceCtorEq, nA, nE, nL, and_self, and_true, true_and, SL, ENMB, Tryd.results12, ag_33, sz_33]
   ·refine Mir.skip (Mir.toK (Mir.seqK (Mir.seqK (Mir.bind fun y103 hy7 => Mir.region fun e h => ?_))))
    simp only [↓reduceIte, reduceCtorEq, nA, nS, nM, nE, nL, nT, nB, iT, iN, iE, and_self, SR, SV, ag_23, sz_23, ENMB]
    refine SpecS.by (tb_far_spec hy7) (by simp only [↓reduceIte, reduceCtorEq, nA, nE, nL, and_self, and_true, true_and, SL, ENMB]) ?_
    simp only [↓reduceIte, reduceCtorEq, nA, nS, nM, nE, nL, nT, nB, iT, iN, iE, and_self, SR, SV, ENMB]
    refine Mir.use (e := e) ?_ h
    refine Mir.cond rfl (fun hb9 => ?_) (fun hb9 => ?_)
    ·refine Mir.seqK (Mir.region fun e h => ?_)
     simp only [↓reduceIte, reduceCtorEq, nA, nS, nM, nE, nL, nT, nB, iT, iN, iE, and_self, SR, SV, zero_33, pl_33, sz_33, ENMB]
     refine Mir.use (e := e) ?_ h
     refine Mir.ret fun e h => ?_
     cases h
     simp only [↓reduceIte, reduceCtorEq, nA, nE, nL, and_self, and_true, true_and, SL, ENMB, Tryd.results12, ag_33, sz_33]
    ·refine Mir.skip (Mir.toK (Mir.seqK (Mir.bind fun y104 hy10 => Mir.region fun e h => ?_)))
     simp only [↓reduceIte, reduceCtorEq, nA, nS, nM, nE, nL, nT, nB, iT, iN, iE, and_self, SR, SV, ag_33, sz_33, ENMB]
     refine SpecS.by (tb_clone_spec hy10) (by simp only [↓reduceIte, reduceCtorEq, nA, nE, nL, and_self, and_true, true_and, SL, ENMB]) ?_
     simp only [↓reduceIte, reduceCtorEq, nA, nS, nM, nE, nL, nT, nB, iT, iN, iE, and_self, SR, SV, zero_33, sz_33, ENMB]
     refine Mir.use (e := e) ?_ h
     refine Mir.seqK (Mir.joinO (fun v105 : TableTable => [U, U, U, U, U, U, .ptr 2 0, U, U, U, U, .ptr 3 0, U, U, U, U, U, U, U, U, U, U, U, U, U, U, U, U, U, U, U, U, U, U, U, U, U]) (fun v105 : TableTable => ⟨[[.d (.int .i64 a0.Work.e0.X), .d (.int .i64 a0.Work.e0.Y), .d (.int .i64 a0.Work.e0.Z), .d (.int .i64 a0.Work.e1.X), .d (.int .i64 a0.Work.e1.Y), .d (.int .i64 a0.Work.e1.Z), .d (.int .i64 a0.Work.e2.X), .d (.int .i64 a0.Work.e2.Y), .d (.int .i64 a0.Work.e2.Z), .d (.int .i64 a0.Work.e3.X), .d (.int .i64 a0.Work.e3.Y), .d (.int .i64 a0.Work.e3.Z), .d (.int .i64 a0.Work.e4.X), .d (.int .i64 a0.Work.e4.Y), .d (.int .i64 a0.Work.e4.Z), .d (.int .i64 a0.Work.e5.X), .d (.int .i64 a0.Work.e5.Y), .d (.int .i64 a0.Work.e5.Z), .d (.list (List.map encTableLength a0.Lengths))], [.d (.int .i64 a2.X), .d (.int .i64 a2.Y), .d (.int .i64 a2.Z)], [.d (.int .i64 0), .d (.int .i64 0), .d (.int .i64 0), .d (.int .i64 0), .d (.int .i64 0), .d (.int .i64 0), .d (.int .i64 0), .d (.int .i64 0), .d (.int .i64 0), .d (.int .i64 0), .d (.int .i64 0), .d (.int .i64 0), .d (.int .i64 0), .d (.int .i64 0), .d (.int .i64 0), .d (.int .i64 0), .d (.int .i64 0), .d (.int .i64 0), .nil], [.d (.int .i64 v105.Work.e0.X), .d (.int .i64 v105.Work.e0.Y), .d (.int .i64 v105.Work.e0.Z), .d (.int .i64 v105.Work.e1.X), .d (.int .i64 v105.Work.e1.Y), .d (.int .i64 v105.Work.e1.Z), .d (.int .i64 v105.Work.e2.X), .d (.int .i64 v105.Work.e2.Y), .d (.int .i64 v105.Work.e2.Z), .d (.int .i64 v105.Work.e3.X), .d (.int .i64 v105.Work.e3.Y), .d (.int .i64 v105.Work.e3.Z), .d (.int .i64 v105.Work.e4.X), .d (.int .i64 v105.Work.e4.Y), .d (.int .i64 v105.Work.e4.Z), .d (.int .i64 v105.Work.e5.X), .d (.int .i64 v105.Work.e5.Y), .d (.int .i64 v105.Work.e5.Z), .d (.list (List.map encTableLength v105.Lengths))]], []⟩) (fun _ => rfl) ?_ ?_)
     ·refine Mir.guard fun qi11 => Mir.ite (fun hb12 => ?_) (fun hb12 => ?_)
      ·refine Mir.region fun e h => ?_
       simp only [↓reduceIte, reduceCtorEq, nA, nS, nM, nE, nL, nT, nB, iT, iN, iE, and_self, SR, SV, ag_23, sz_23, fld_33_0, sz_24, und_24, (eq_of_beq hb12), ENMB, hb12]
       cases h
       simp only [↓reduceIte, reduceCtorEq, nA, nE, nL, and_self, and_true, true_and, SL, ENMB, hb12]
      ·refine Mir.ite (fun hb13 => ?_) (fun hb13 => ?_)
       ·refine Mir.region fun e h => ?_
        simp only [↓reduceIte, reduceCtorEq, nA, nS, nM, nE, nL, nT, nB, iT, iN, iE, and_self, SR, SV, ag_23, sz_23, fld_33_0, sz_24, und_24, (eq_of_beq hb13), ENMB, hb12, hb13]
        cases h
        simp only [↓reduceIte, reduceCtorEq, nA, nE, nL, and_self, and_true, true_and, SL, ENMB, hb12, hb13]
       ·refine Mir.ite (fun hb14 => ?_) (fun hb14 => ?_)
        ·refine Mir.region fun e h => ?_
         simp only [↓reduceIte, reduceCtorEq, nA, nS, nM, nE, nL, nT, nB, iT, iN, iE, and_self, SR, SV, ag_23, sz_23, fld_33_0, sz_24, und_24, (eq_of_beq hb14), ENMB, hb12, hb13, hb14]
         cases h
         simp only [↓reduceIte, reduceCtorEq, nA, nE, nL, and_self, and_true, true_and, SL, ENMB, hb12, hb13, hb14]
        ·refine Mir.ite (fun hb15 => ?_) (fun hb15 => ?_)
         ·refine Mir.region fun e h => ?_
          simp only [↓reduceIte, reduceCtorEq, nA, nS, nM, nE, nL, nT, nB, iT, iN, iE, and_self, SR, SV, ag_23, sz_23, fld_33_0, sz_24, und_24, (eq_of_beq hb15), ENMB, hb12, hb13, hb14, hb15]
          cases h
          simp only [↓reduceIte, reduceCtorEq, nA, nE, nL, and_self, and_true, true_and, SL, ENMB, hb12, hb13, hb14, hb15]
         ·refine Mir.ite (fun hb16 => ?_) (fun hb16 => ?_)
          ·refine Mir.region fun e h => ?_
           simp only [↓reduceIte, reduceCtorEq, nA, nS, nM, nE, nL, nT, nB, iT, iN, iE, and_self, SR, SV, ag_23, sz_23, fld_33_0, sz_24, und_24, (eq_of_beq hb16), ENMB, hb12, hb13, hb14, hb15, hb16]
           cases h
           simp only [↓reduceIte, reduceCtorEq, nA, nE, nL, and_self, and_true, true_and, SL, ENMB, hb12, hb13, hb14, hb15, hb16]
          ·have hz17 : y102.1 = 5 := by have h0 := of_decide_eq_true qi11; have h1 := ne_of_beq_false hb12; have h2 := ne_of_beq_false hb13; have h3 := ne_of_beq_false hb14; have h4 := ne_of_beq_false hb15; have h5 := ne_of_beq_false hb16; omega
           refine Mir.region fun e h => ?_
           simp only [↓reduceIte, reduceCtorEq, nA, nS, nM, nE, nL, nT, nB, iT, iN, iE, and_self, SR, SV, ag_23, sz_23, fld_33_0, sz_24, und_24, hz17, ENMB, hb12, hb13, hb14, hb15, hb16]
           cases h
           simp only [↓reduceIte, reduceCtorEq, nA, nE, nL, and_self, and_true, true_and, SL, ENMB, hb12, hb13, hb14, hb15, hb16]
     ·intro v105
      refine Mir.toK (Mir.seqK (Mir.region fun e h => ?_))
      simp only [↓reduceIte, reduceCtorEq, nA, nS, nM, nE, nL, nT, nB, iT, iN, iE, and_self, SR, SV, ag_33, sz_33, ENMB]
      refine Mir.use (e := e) ?_ h
      refine Mir.ret fun e h => ?_
      cases h
      simp only [↓reduceIte, reduceCtorEq, nA, nE, nL, and_self, and_true, true_and, SL, ENMB, Tryd.results12, ag_33, sz_33]

def tb_SetLength (a0 : TableTable) (a1 : Int) (a2 : Int) : Option (TableTable × Int) :=
  bindO (bindO (tb_Valid a0) fun (y101 : Int) =>
      if (y101 != 0) = true then
        some true
      else
        bindO (tb_entry (TableLength.mk a1 a2)) fun (y102 : Bool) =>
        some (!y102)) fun (v103 : Bool) =>
  if v103 = true then
    some (TableTable.mk (Arr6ApiPos.mk (ApiPos.mk 0 0 0) (ApiPos.mk 0 0 0) (ApiPos.mk 0 0 0) (ApiPos.mk 0 0 0) (ApiPos.mk 0 0 0) (ApiPos.mk 0 0 0)) [], 1)
  else
    bindO (bindO (slices_Clone_table_Length_table_Length a0.Lengths) fun (y106 : (List TableLength)) =>
        some y106) fun (v105 : (List TableLength)) =>
    bindO (tb_find (TableTable.mk a0.Work v105) a1) fun (y107 : Int × Bool) =>
    if y107.2 = true then
      bindO (gt v105 y107.1) fun (e109 : TableLength) =>
      some (TableTable.mk a0.Work (v105.set (Int.toNat y107.1) (TableLength.mk a1 a2)), 0)
    else
      guardO (decide (0 ≤ y107.1 ∧ y107.1 ≤ (v105.length : Int))) (
      guardO (okLen (v105.length + 1)) (
      some (TableTable.mk a0.Work (v105.take (Int.toNat y107.1) ++ [TableLength.mk a1 a2] ++ v105.drop (Int.toNat y107.1)), 0)))
theorem tb_SetLength_spec {a0 : TableTable} {a1 : Int} {a2 : Int} {y : TableTable × Int} (h : tb_SetLength a0 a1 a2 = some y) : Spec gP 17 [.agg [.d (.int .i64 a0.Work.e0.X), .d (.int .i64 a0.Work.e0.Y), .d (.int .i64 a0.Work.e0.Z), .d (.int .i64 a0.Work.e1.X), .d (.int .i64 a0.Work.e1.Y), .d (.int .i64 a0.Work.e1.Z), .d (.int .i64 a0.Work.e2.X), .d (.int .i64 a0.Work.e2.Y), .d (.int .i64 a0.Work.e2.Z), .d (.int .i64 a0.Work.e3.X), .d (.int .i64 a0.Work.e3.Y), .d (.int .i64 a0.Work.e3.Z), .d (.int .i64 a0.Work.e4.X), .d (.int .i64 a0.Work.e4.Y), .d (.int .i64 a0.Work.e4.Z), .d (.int .i64 a0.Work.e5.X), .d (.int .i64 a0.Work.e5.Y), .d (.int .i64 a0.Work.e5.Z), .d (.list (List.map encTableLength a0.Lengths))], .d (.int .i64 a1), .d (.int .i64 a2)] (.tuple [.agg [.d (.int .i64 y.1.Work.e0.X), .d (.int .i64 y.1.Work.e0.Y), .d (.int .i64 y.1.Work.e0.Z), .d (.int .i64 y.1.Work.e1.X), .d (.int .i64 y.1.Work.e1.Y), .d (.int .i64 y.1.Work.e1.Z), .d (.int .i64 y.1.Work.e2.X), .d (.int .i64 y.1.Work.e2.Y), .d (.int .i64 y.1.Work.e2.Z), .d (.int .i64 y.1.Work.e3.X), .d (.int .i64 y.1.Work.e3.Y), .d (.int .i64 y.1.Work.e3.Z), .d (.int .i64 y.1.Work.e4.X), .d (.int .i64 y.1.Work.e4.Y), .d (.int .i64 y.1.Work.e4.Z), .d (.int .i64 y.1.Work.e5.X), .d (.int .i64 y.1.Work.e5.Y), .d (.int .i64 y.1.Work.e5.Z), .d (.list (List.map encTableLength y.1.Lengths))], .d (.int .i64 y.2)]) := by
  refine spec_mir Tryd.func17 rfl (by kernel_rfl) (by kernel_rfl) (fun y : TableTable × Int => .tuple [.agg [.d (.int .i64 y.1.Work.e0.X), .d (.int .i64 y.1.Work.e0.Y), .d (.int .i64 y.1.Work.e0.Z), .d (.int .i64 y.1.Work.e1.X), .d (.int .i64 y.1.Work.e1.Y), .d (.int .i64 y.1.Work.e1.Z), .d (.int .i64 y.1.Work.e2.X), .d (.int .i64 y.1.Work.e2.Y), .d (.int .i64 y.1.Work.e2.Z), .d (.int .i64 y.1.Work.e3.X), .d (.int .i64 y.1.Work.e3.Y), .d (.int .i64 y.1.Work.e3.Z), .d (.int .i64 y.1.Work.e4.X), .d (.int .i64 y.1.Work.e4.Y), .d (.int .i64 y.1.Work.e4.Z), .d (.int .i64 y.1.Work.e5.X), .d (.int .i64 y.1.Work.e5.Y), .d (.int .i64 y.1.Work.e5.Z), .d (.list (List.map encTableLength y.1.Lengths))], .d (.int .i64 y.2)]) ?_ h
  unfold tb_SetLength
  simp only [List.replicate, List.length, nS, nA, Tryd.ntmps17, SV]
  refine Mir.seqK (Mir.region fun e h => ?_)
  simp only [↓reduceIte, reduceCtorEq, nA, nS, nM, nE, nL, nT, nB, iT, iN, iE, and_self, SR, SV, zero_33, ENMB, rmap_set, spD]
  refine Mir.use (e := e) ?_ h
  refine Mir.seqK (Mir.region fun e h => ?_)
  simp only [↓reduceIte, reduceCtorEq, nA, nS, nM, nE, nL, nT, nB, iT, iN, iE, and_self, SR, SV, zero_48, pl_48, sz_48, ENMB, rmap_set, spD]
  refine Mir.use (e := e) ?_ h
  refine Mir.seqK (Mir.seqK (Mir.joinO (fun v103 : Bool => [U, .d (.int .i64 a1), U, .ptr 0 0, U, U, .ptr 1 0, U, .ptr 2 0, U, U, U, U, U, U, U, U, U, U, U, U, U, .d (.bool v103), U, U, U, U, U, U, U, U, U, U, U, U, U, U, U, U, U, U, U, U, U, U, U]) (fun v103 : Bool => ⟨[[.d (.int .i64 a0.Work.e0.X), .d (.int .i64 a0.Work.e0.Y), .d (.int .i64 a0.Work.e0.Z), .d (.int .i64 a0.Work.e1.X), .d (.int .i64 a0.Work.e1.Y), .d (.int .i64 a0.Work.e1.Z), .d (.int .i64 a0.Work.e2.X), .d (.int .i64 a0.Work.e2.Y), .d (.int .i64 a0.Work.e2.Z), .d (.int .i64 a0.Work.e3.X), .d (.int .i64 a0.Work.e3.Y), .d (.int .i64 a0.Work.e3.Z), .d (.int .i64 a0.Work.e4.X), .d (.int .i64 a0.Work.e4.Y), .d (.int .i64 a0.Work.e4.Z), .d (.int .i64 a0.Work.e5.X), .d (.int .i64 a0.Work.e5.Y), .d (.int .i64 a0.Work.e5.Z), .d (.list (List.map encTableLength a0.Lengths))], [.d (.int .i64 0), .d (.int .i64 0), .d (.int .i64 0), .d (.int .i64 0), .d (.int .i64 0), .d (.int .i64 0), .d (.int .i64 0), .d (.int .i64 0), .d (.int .i64 0), .d (.int .i64 0), .d (.int .i64 0), .d (.int .i64 0), .d (.int .i64 0), .d (.int .i64 0), .d (.int .i64 0), .d (.int .i64 0), .d (.int .i64 0), .d (.int .i64 0), .nil], [.d (.int .i64 a1), .d (.int .i64 a2)]], []⟩) (fun _ => rfl) ?_ ?_))
  ·refine Mir.bind fun y101 hy1 => Mir.ite (fun hb2 => ?_) (fun hb2 => ?_)
   ·refine Mir.region fun e h => ?_
    simp only [↓reduceIte, reduceCtorEq, nA, nS, nM, nE, nL, nT, nB, iT, iN, iE, and_self, SR, SV, ag_33, sz_33, ENMB, hb2]
    refine SpecS.by (tb_Valid_spec hy1) (by simp only [↓reduceIte, reduceCtorEq, nA, nE, nL, and_self, and_true, true_and, SL, ENMB, hb2]) ?_
    simp only [↓reduceIte, reduceCtorEq, nA, nS, nM, nE, nL, nT, nB, iT, iN, iE, and_self, SR, SV, ENMB, hb2]
    cases h
    simp only [↓reduceIte, reduceCtorEq, nA, nE, nL, and_self, and_true, true_and, SL, ENMB, hb2]
   ·refine Mir.bind fun y102 hy3 => Mir.region fun e h => ?_
    simp only [↓reduceIte, reduceCtorEq, nA, nS, nM, nE, nL, nT, nB, iT, iN, iE, and_self, SR, SV, ag_33, sz_33, ENMB, hb2]
    refine SpecS.by (tb_Valid_spec hy1) (by simp only [↓reduceIte, reduceCtorEq, nA, nE, nL, and_self, and_true, true_and, SL, ENMB, hb2]) ?_
    simp only [↓reduceIte, reduceCtorEq, nA, nS, nM, nE, nL, nT, nB, iT, iN, iE, and_self, SR, SV, ag_48, sz_48, ENMB, hb2]
    refine SpecS.by (tb_entry_spec hy3) (by simp only [↓reduceIte, reduceCtorEq, nA, nE, nL, and_self, and_true, true_and, SL, ENMB, hb2]) ?_
    simp only [↓reduceIte, reduceCtorEq, nA, nS, nM, nE, nL, nT, nB, iT, iN, iE, and_self, SR, SV, ENMB, hb2]
    cases h
    simp only [↓reduceIte, reduceCtorEq, nA, nE, nL, and_self, and_true, true_and, SL, ENMB, hb2]
  ·intro v103
   refine Mir.toK (Mir.cond rfl (fun hb5 => ?_) (fun hb5 => ?_))
   ·refine Mir.seqK (Mir.region fun e h => ?_)
    simp only [↓reduceIte, reduceCtorEq, nA, nS, nM, nE, nL, nT, nB, iT, iN, iE, and_self, SR, SV, zero_33, pl_33, sz_33, ENMB]
    refine Mir.use (e := e) ?_ h
    refine Mir.ret fun e h => ?_
    cases h
    simp only [↓reduceIte, reduceCtorEq, nA, nE, nL, and_self, and_true, true_and, SL, ENMB, Tryd.results17, ag_33, sz_33]
   ·refine Mir.skip (Mir.toK (Mir.seqK (Mir.bind fun v105 hv7 => Mir.region fun e h => ?_)))
    simp only [↓reduceIte, reduceCtorEq, nA, nS, nM, nE, nL, nT, nB, iT, iN, iE, and_self, SR, SV, ag_33, sz_33, ENMB, rmap_set, spD]
    refine SpecS.inl Tryd.func30 rfl (by kernel_rfl) (by kernel_rfl) (fun v105 : (List TableLength) => .agg [.d (.int .i64 a0.Work.e0.X), .d (.int .i64 a0.Work.e0.Y), .d (.int .i64 a0.Work.e0.Z), .d (.int .i64 a0.Work.e1.X), .d (.int .i64 a0.Work.e1.Y), .d (.int .i64 a0.Work.e1.Z), .d (.int .i64 a0.Work.e2.X), .d (.int .i64 a0.Work.e2.Y), .d (.int .i64 a0.Work.e2.Z), .d (.int .i64 a0.Work.e3.X), .d (.int .i64 a0.Work.e3.Y), .d (.int .i64 a0.Work.e3.Z), .d (.int .i64 a0.Work.e4.X), .d (.int .i64 a0.Work.e4.Y), .d (.int .i64 a0.Work.e4.Z), .d (.int .i64 a0.Work.e5.X), .d (.int .i64 a0.Work.e5.Y), .d (.int .i64 a0.Work.e5.Z), .gr 5 0]) (fun v105 : (List TableLength) => ⟨[[.d (.int .i64 a0.Work.e0.X), .d (.int .i64 a0.Work.e0.Y), .d (.int .i64 a0.Work.e0.Z), .d (.int .i64 a0.Work.e1.X), .d (.int .i64 a0.Work.e1.Y), .d (.int .i64 a0.Work.e1.Z), .d (.int .i64 a0.Work.e2.X), .d (.int .i64 a0.Work.e2.Y), .d (.int .i64 a0.Work.e2.Z), .d (.int .i64 a0.Work.e3.X), .d (.int .i64 a0.Work.e3.Y), .d (.int .i64 a0.Work.e3.Z), .d (.int .i64 a0.Work.e4.X), .d (.int .i64 a0.Work.e4.Y), .d (.int .i64 a0.Work.e4.Z), .d (.int .i64 a0.Work.e5.X), .d (.int .i64 a0.Work.e5.Y), .d (.int .i64 a0.Work.e5.Z), .d (.list (List.map encTableLength a0.Lengths))], [.d (.int .i64 0), .d (.int .i64 0), .d (.int .i64 0), .d (.int .i64 0), .d (.int .i64 0), .d (.int .i64 0), .d (.int .i64 0), .d (.int .i64 0), .d (.int .i64 0), .d (.int .i64 0), .d (.int .i64 0), .d (.int .i64 0), .d (.int .i64 0), .d (.int .i64 0), .d (.int .i64 0), .d (.int .i64 0), .d (.int .i64 0), .d (.int .i64 0), .nil], [.d (.int .i64 a1), .d (.int .i64 a2)], [.d (.int .i64 a0.Work.e0.X), .d (.int .i64 a0.Work.e0.Y), .d (.int .i64 a0.Work.e0.Z), .d (.int .i64 a0.Work.e1.X), .d (.int .i64 a0.Work.e1.Y), .d (.int .i64 a0.Work.e1.Z), .d (.int .i64 a0.Work.e2.X), .d (.int .i64 a0.Work.e2.Y), .d (.int .i64 a0.Work.e2.Z), .d (.int .i64 a0.Work.e3.X), .d (.int .i64 a0.Work.e3.Y), .d (.int .i64 a0.Work.e3.Z), .d (.int .i64 a0.Work.e4.X), .d (.int .i64 a0.Work.e4.Y), .d (.int .i64 a0.Work.e4.Z), .d (.int .i64 a0.Work.e5.X), .d (.int .i64 a0.Work.e5.Y), .d (.int .i64 a0.Work.e5.Z), .gr 5 0], [.d (.int .i64 a0.Work.e0.X), .d (.int .i64 a0.Work.e0.Y), .d (.int .i64 a0.Work.e0.Z), .d (.int .i64 a0.Work.e1.X), .d (.int .i64 a0.Work.e1.Y), .d (.int .i64 a0.Work.e1.Z), .d (.int .i64 a0.Work.e2.X), .d (.int .i64 a0.Work.e2.Y), .d (.int .i64 a0.Work.e2.Z), .d (.int .i64 a0.Work.e3.X), .d (.int .i64 a0.Work.e3.Y), .d (.int .i64 a0.Work.e3.Z), .d (.int .i64 a0.Work.e4.X), .d (.int .i64 a0.Work.e4.Y), .d (.int .i64 a0.Work.e4.Z), .d (.int .i64 a0.Work.e5.X), .d (.int .i64 a0.Work.e5.Y), .d (.int .i64 a0.Work.e5.Z), .gr 5 0], [.rowc 48 0 (List.map encTableLength v105)]], []⟩) hv7 rfl ?_ ?_
    ·simp only [List.replicate, List.length, nS, nA, Tryd.ntmps30, SV]
     refine Mir.seqK (Mir.region fun e h => ?_)
     simp only [↓reduceIte, reduceCtorEq, nA, nS, nM, nE, nL, nT, nB, iT, iN, iE, and_self, SR, SV, zero_33, ENMB]
     refine Mir.use (e := e) ?_ h
     refine Mir.seqK (Mir.bind fun y106 hy8 => Mir.region fun e h => ?_)
     simp only [↓reduceIte, reduceCtorEq, nA, nS, nM, nE, nL, nT, nB, iT, iN, iE, and_self, SR, SV, fld_33_1, sz_31, ag_31, ENMB]
     refine SpecY.toS (slices_Clone_table_Length_table_Length_specY hy8) (by simp only [↓reduceIte, reduceCtorEq, nA, nE, nL, and_self, and_true, true_and, SL, ENMB]) ?_
     simp only [↓reduceIte, reduceCtorEq, nA, nS, nM, nE, nL, nT, nB, iT, iN, iE, and_self, SR, SV, fld_33_1, sz_31, ENMB]
     refine Mir.use (e := e) ?_ h
     refine Mir.seqK (Mir.region fun e h => ?_)
     simp only [↓reduceIte, reduceCtorEq, nA, nS, nM, nE, nL, nT, nB, iT, iN, iE, and_self, SR, SV, ag_33, sz_33, ENMB]
     refine Mir.use (e := e) ?_ h
     refine Mir.ret fun e h => ?_
     cases h
     simp only [↓reduceIte, reduceCtorEq, nA, nE, nL, and_self, and_true, true_and, SL, ENMB, Tryd.results30, ag_33, sz_33]
    simp only [↓reduceIte, reduceCtorEq, nA, nS, nM, nE, nL, nT, nB, iT, iN, iE, and_self, SR, SV, zero_33, sz_33, ENMB, rmap_set, spD]
    refine Mir.use (e := e) ?_ h
    refine Mir.seqK (Mir.seqK (Mir.bind fun y107 hy9 => Mir.region fun e h => ?_))
    simp only [↓reduceIte, reduceCtorEq, nA, nS, nM, nE, nL, nT, nB, iT, iN, iE, and_self, SR, SV, ag_33, sz_33, ENMB, rmap_set, spD]
    refine SpecS.byZ (tb_find_spec hy9) rfl rfl ?_
    simp only [↓reduceIte, reduceCtorEq, nA, nS, nM, nE, nL, nT, nB, iT, iN, iE, and_self, SR, SV, ENMB, rmap_set, spD]
    refine Mir.use (e := e) ?_ h
    refine Mir.seqK (Mir.region fun e h => ?_)
    simp only [↓reduceIte, reduceCtorEq, nA, nS, nM, nE, nL, nT, nB, iT, iN, iE, and_self, SR, SV, ENMB, rmap_set, spD]
    refine Mir.use (e := e) ?_ h
    refine Mir.cond rfl (fun hb14 => ?_) (fun hb14 => ?_)
    ·refine Mir.bind fun e109 q15 => ?_
     replace q15 := gt_ok q15
     refine Mir.regionW fun e h => regW.alt 4 rfl ?_
     simp only [↓reduceIte, reduceCtorEq, nA, nS, nM, nE, nL, nT, nB, iT, iN, iE, and_self, SR, SV, w_none, w_eq, and_true, true_and, tkS, tk0, tkN, dpS, dp0, fld_33_1, sz_31, ag_31, ag_48, sz_48, ENMB, rmap_set, spD]
     refine alt_indexR rfl rfl rfl und_31 sz_48 (row_lo q15.1) (row_hi q15.2 q15.1) (regW.alt 0 rfl ?_)
     simp only [↓reduceIte, reduceCtorEq, nA, nS, nM, nE, nL, nT, nB, iT, iN, iE, and_self, SR, SV, w_none, w_eq, and_true, true_and, tkS, tk0, tkN, dpS, dp0, und_31, sz_48, ENMB, rmap_set, spD]
     refine alt_storeR rfl rfl (row_at q15.2) rfl rfl sz_48 rfl (Nat.le_of_ble_eq_true rfl) (regW.of ?_)
     simp only [↓reduceIte, reduceCtorEq, nA, nS, nM, nE, nL, nT, nB, iT, iN, iE, and_self, SR, SV, w_none, w_eq, and_true, true_and, tkS, tk0, tkN, dpS, dp0, sz_48, ENMB, rmap_set, spD]
     refine Mir.use (e := e) ?_ h
     refine Mir.seqK (Mir.region fun e h => ?_)
     simp only [↓reduceIte, reduceCtorEq, nA, nS, nM, nE, nL, nT, nB, iT, iN, iE, and_self, SR, SV, ag_33, sz_33, ENMB, rmap_set, spD]
     refine Mir.use (e := e) ?_ h
     refine Mir.frz 5 rfl ?_
     simp only [↓reduceIte, reduceCtorEq, nA, nE, and_self, and_true, true_and, and_false, false_and, SZ]
     refine Mir.ret fun e h => ?_
     cases h
     simp only [↓reduceIte, reduceCtorEq, nA, nE, nL, and_self, and_true, true_and, SL, ENMB, rmap_set, spD, Tryd.results17, ag_33, sz_33]
    ·refine Mir.guard fun q16 => Mir.guard fun q17 => Mir.region fun e h => ?_
     simp only [↓reduceIte, reduceCtorEq, nA, nS, nM, nE, nL, nT, nB, iT, iN, iE, and_self, SR, SV, fld_33_1, sz_31, ag_31, ag_48, sz_48, und_31, zero_48, (nr rfl : okLen 2 = true), ENMB, rmap_set, spD]
     refine specS_ins_TableLength encTableLength v105 (TableLength.mk a1 a2) rfl (of_decide_eq_true q16).1 (of_decide_eq_true q16).2 q17 rfl ?_
     simp only [↓reduceIte, reduceCtorEq, nA, nS, nM, nE, nL, nT, nB, iT, iN, iE, and_self, SR, SV, fld_33_1, sz_31, ENMB, rmap_set, spD]
     refine Mir.use (e := e) ?_ h
     refine Mir.seqK (Mir.region fun e h => ?_)
     simp only [↓reduceIte, reduceCtorEq, nA, nS, nM, nE, nL, nT, nB, iT, iN, iE, and_self, SR, SV, ag_33, sz_33, ENMB, rmap_set, spD]
     refine Mir.use (e := e) ?_ h
     refine Mir.frz 5 rfl ?_
     simp only [↓reduceIte, reduceCtorEq, nA, nE, and_self, and_true, true_and, and_false, false_and, SZ]
     refine Mir.ret fun e h => ?_
     cases h
     simp only [↓reduceIte, reduceCtorEq, nA, nE, nL, and_self, and_true, true_and, SL, ENMB, rmap_set, spD, Tryd.results17, ag_33, sz_33]

def dc_Millimetres (a0 : Int) : Option (List UInt8) :=
  bindO (if (decide (a0 < 0)) = true then
        some ([45], IntKind.u64.wrap (0 - (IntKind.u64.wrap a0)))
      else
        some ([], IntKind.u64.wrap a0)) fun (v101 : (List UInt8) × Int) =>
  bindO (strconv_FormatUint (IntKind.u64.wrap (Int.tdiv v101.2 1000)) 10) fun (y102 : (List UInt8)) =>
  guardO (okStr v101.1 y102) (
  bindO (if ((Int.tmod v101.2 1000) != 0) = true then
        bindO (strconv_FormatUint (IntKind.u64.wrap (1000 + (Int.tmod v101.2 1000))) 10) fun (y107 : (List UInt8)) =>
        bindO (cutF y107 1) fun (s108 : (List UInt8)) =>
        bindO (strings_TrimRight s108 [48]) fun (y109 : (List UInt8)) =>
        guardO (okStr [46] y109) (
        guardO (okStr (v101.1 ++ y102) ([46] ++ y109)) (
        some ((v101.1 ++ y102) ++ ([46] ++ y109))))
      else
        some (v101.1 ++ y102)) fun (v106 : (List UInt8)) =>
  some v106)
theorem dc_Millimetres_spec {a0 : Int} {y : (List UInt8)} (h : dc_Millimetres a0 = some y) : Spec gP 39 [.d (.int .i64 a0)] (.d (.str y)) := by
  refine spec_mir Tryd.func39 rfl (by kernel_rfl) (by kernel_rfl) (fun y : (List UInt8) => .d (.str y)) ?_ h
  unfold dc_Millimetres
  simp only [List.replicate, List.length, nS, nA, Tryd.ntmps39, SV]
  refine Mir.seqK (Mir.region fun e h => ?_)
  simp only [↓reduceIte, reduceCtorEq, nA, nS, nM, nE, nL, nT, nB, iT, iN, iE, and_self, SR, SV]
  refine Mir.use (e := e) ?_ h
  refine Mir.seqK (Mir.region fun e h => ?_)
  simp only [↓reduceIte, reduceCtorEq, nA, nS, nM, nE, nL, nT, nB, iT, iN, iE, and_self, SR, SV, und_2, und_98]
  refine Mir.use (e := e) ?_ h
  refine Mir.seqK (Mir.seqK (Mir.region fun e h => ?_))
  simp only [↓reduceIte, reduceCtorEq, nA, nS, nM, nE, nL, nT, nB, iT, iN, iE, and_self, SR, SV]
  refine Mir.use (e := e) ?_ h
  refine Mir.joinO (fun v101 : (List UInt8) × Int => [U, U, U, .d (.str v101.1), .d (.int .u64 v101.2), U, U, U, U, U, U, U, U, U, U, U, U, U, U, U, U, U, U, U, U, U, U, U, U, U, U]) (fun v101 : (List UInt8) × Int => ⟨[], []⟩) (fun _ => rfl) ?_ ?_
  ·refine Mir.cond rfl (fun hb2 => ?_) (fun hb2 => ?_)
   ·refine Mir.region fun e h => ?_
    simp only [↓reduceIte, reduceCtorEq, nA, nS, nM, nE, nL, nT, nB, iT, iN, iE, and_self, SR, SV, und_2, und_98]
    cases h
    simp only [↓reduceIte, reduceCtorEq, nA, nE, nL, and_self, and_true, true_and, SL, Tryd.results39]
   ·refine Mir.skip fun e h => ?_
    cases h
    simp only [↓reduceIte, reduceCtorEq, nA, nE, nL, and_self, and_true, true_and, SL, Tryd.results39]
  ·intro v101
   refine Mir.toK (Mir.seqK (Mir.bind fun y102 hy3 => Mir.guard fun q4 => ?_))
   replace q4 := okStr_ok q4
   refine Mir.region fun e h => ?_
   simp only [↓reduceIte, reduceCtorEq, nA, nS, nM, nE, nL, nT, nB, iT, iN, iE, and_self, SR, SV]
   refine SpecS.by (strconv_FormatUint_spec hy3) (by simp only [↓reduceIte, reduceCtorEq, nA, nE, nL, and_self, and_true, true_and, SL]) ?_
   simp only [↓reduceIte, reduceCtorEq, nA, nS, nM, nE, nL, nT, nB, iT, iN, iE, and_self, SR, SV, q4]
   refine Mir.use (e := e) ?_ h
   refine Mir.seqK (Mir.seqK (Mir.region fun e h => ?_))
   simp only [↓reduceIte, reduceCtorEq, nA, nS, nM, nE, nL, nT, nB, iT, iN, iE, and_self, SR, SV]
   refine Mir.use (e := e) ?_ h
   refine Mir.joinO (fun v106 : (List UInt8) => [U, U, U, U, U, .d (.str v106), U, U, U, U, U, U, U, U, U, U, U, U, U, U, U, U, U, U, U, U, U, U, U, U, U]) (fun v106 : (List UInt8) => ⟨[], []⟩) (fun _ => rfl) ?_ ?_
   ·refine Mir.cond rfl (fun hb11 => ?_) (fun hb11 => ?_)
    ·refine Mir.bind fun y107 hy12 => Mir.bind fun s108 q13 => ?_
     replace q13 := cutF_ok q13
     simp only [Int.reduceToNat, Int.reduceLT, Nat.sub_zero, dp0] at q13
     refine Mir.bind fun y109 hy14 => Mir.guard fun q15 => ?_
     replace q15 := okStr_ok q15
     try simp only [lm, xNA, xCA, xAN, xLC, xLN, xAC, xAL, nA, Nat.zero_add] at q15
     refine Mir.guard fun q16 => ?_
     replace q16 := okStr_ok q16
     try simp only [lm, xNA, xCA, xAN, xLC, xLN, xAC, xAL, nA, Nat.zero_add] at q16
     refine Mir.region fun e h => ?_
     simp only [↓reduceIte, reduceCtorEq, nA, nS, nM, nE, nL, nT, nB, iT, iN, iE, and_self, SR, SV]
     refine SpecS.by (strconv_FormatUint_spec hy12) (by simp only [↓reduceIte, reduceCtorEq, nA, nE, nL, and_self, and_true, true_and, SL]) ?_
     simp only [↓reduceIte, reduceCtorEq, nA, nS, nM, nE, nL, nT, nB, iT, iN, iE, and_self, SR, SV, und_9, q13, Nat.le_refl, and_true, true_and, dm, tm]
     refine SpecS.by (strings_TrimRight_spec hy14) (by simp only [↓reduceIte, reduceCtorEq, nA, nE, nL, and_self, and_true, true_and, SL]) ?_
     simp only [↓reduceIte, reduceCtorEq, nA, nS, nM, nE, nL, nT, nB, iT, iN, iE, and_self, SR, SV, q15, q16]
     cases h
     simp only [↓reduceIte, reduceCtorEq, nA, nE, nL, and_self, and_true, true_and, SL, Tryd.results39]
    ·refine Mir.skip fun e h => ?_
     cases h
     simp only [↓reduceIte, reduceCtorEq, nA, nE, nL, and_self, and_true, true_and, SL, Tryd.results39]
   ·intro v106
    refine Mir.toK (Mir.seqK (Mir.region fun e h => ?_))
    simp only [↓reduceIte, reduceCtorEq, nA, nS, nM, nE, nL, nT, nB, iT, iN, iE, and_self, SR, SV]
    refine Mir.use (e := e) ?_ h
    refine Mir.ret fun e h => ?_
    cases h
    simp only [↓reduceIte, reduceCtorEq, nA, nE, nL, and_self, and_true, true_and, SL, Tryd.results39]

end Go.Proofs.YtiiglghanajfcaaDoor
