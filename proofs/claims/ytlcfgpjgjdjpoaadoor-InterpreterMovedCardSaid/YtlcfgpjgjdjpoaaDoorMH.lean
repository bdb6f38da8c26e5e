/-
  Mirrors of functions, written by wip/mir.py.
-/
import Derived.Test.YtlcfgpjgjdjpoaaDoorGf
import Derived.Test.YtlcfgpjgjdjpoaaDoorTy
import Derived.Test.YtlcfgpjgjdjpoaaDoorMB
namespace Go.Proofs.YtlcfgpjgjdjpoaaDoor
open Go.RowKit
open Nat renaming reduceAdd → nA, reduceSub → nS, reduceMul → nM, reduceEqDiff → nE, reduceLeDiff → nL, reduceLT → nT, reduceBEq → nB
open Int renaming reduceLT → iT, reduceToNat → iN, reduceEq → iE
set_option linter.unusedVariables false
set_option linter.unusedSimpArgs false
set_option maxRecDepth 100000

structure L47Setting where
  Table : R45Table
  From : ApiPos
  deriving DecidableEq
def encL47Setting (x : L47Setting) : List D := [.int .i64 x.Table.Work.e0.X, .int .i64 x.Table.Work.e0.Y, .int .i64 x.Table.Work.e0.Z, .int .i64 x.Table.Work.e1.X, .int .i64 x.Table.Work.e1.Y, .int .i64 x.Table.Work.e1.Z, .int .i64 x.Table.Work.e2.X, .int .i64 x.Table.Work.e2.Y, .int .i64 x.Table.Work.e2.Z, .int .i64 x.Table.Work.e3.X, .int .i64 x.Table.Work.e3.Y, .int .i64 x.Table.Work.e3.Z, .int .i64 x.Table.Work.e4.X, .int .i64 x.Table.Work.e4.Y, .int .i64 x.Table.Work.e4.Z, .int .i64 x.Table.Work.e5.X, .int .i64 x.Table.Work.e5.Y, .int .i64 x.Table.Work.e5.Z, .list (List.map encR45Length x.Table.Lengths), .int .i64 x.From.X, .int .i64 x.From.Y, .int .i64 x.From.Z]
theorem al_L47Setting {l : List L47Setting} : (List.map encL47Setting l).all (fun x => x.length == 22) = true := by simp [List.all_eq_true, encL47Setting]
def r41_Few (a0 : (List ApiBlock)) (a1 : Int) : Option Bool :=
  if (decide ((a0.length : Int) > a1)) = true then
    some false
  else
    bindX (guardO (okIdx a0) (
        rangeX (fun (i139 : Nat) (e141 : ApiBlock) (v140 : Unit) =>
          if ((decide ((e141.Words.length : Int) > 20)) || (decide ((e141.Comment.length : Int) > 120))) = true then
            some (.ret (.ret false))
          else
            some (.go ())) (fun (v140 : Unit) => some (.go ())) a0 0 ())) fun (v121 : Unit) =>
    some true
theorem r41_Few_spec {a0 : (List ApiBlock)} {a1 : Int} {y : Bool} (h : r41_Few a0 a1 = some y) : Spec gP 25 [.d (.list (List.map encApiBlock a0)), .d (.int .i64 a1)] (.d (.bool y)) := by
  refine spec_mir Tryd.func25 rfl (by kernel_rfl) (by kernel_rfl) (fun y : Bool => .d (.bool y)) ?_ h
  unfold r41_Few
  simp only [List.replicate, List.length, nS, nA, Tryd.ntmps25, SV]
  refine Mir.seqK ?_
  refine Mir.region fun e h => ?_
  simp only [↓reduceIte, reduceCtorEq, nA, nS, nM, nE, nL, nT, nB, iT, iN, iE, and_self, SR, SV, encApiBlock]
  refine Mir.use (e := e) ?_ h
  refine Mir.seqK ?_
  refine Mir.seqK ?_
  refine Mir.region fun e h => ?_
  simp only [↓reduceIte, reduceCtorEq, nA, nS, nM, nE, nL, nT, nB, iT, iN, iE, and_self, SR, SV, und_43, encApiBlock]
  refine Mir.use (e := e) ?_ h
  refine Mir.cond rfl (fun hb2 => ?_) (fun hb2 => ?_)
  ·refine Mir.seqK ?_
   refine Mir.region fun e h => ?_
   simp only [↓reduceIte, reduceCtorEq, nA, nS, nM, nE, nL, nT, nB, iT, iN, iE, and_self, SR, SV, encApiBlock]
   refine Mir.use (e := e) ?_ h
   refine Mir.ret fun e h => ?_
   cases h
   simp only [↓reduceIte, reduceCtorEq, nA, nE, nL, and_self, and_true, true_and, SL, encApiBlock, Tryd.results25]
  ·refine Mir.skip ?_
   refine Mir.toK ?_
   refine Mir.seqK ?_
   refine Mir.seqK ?_
   refine Mir.region fun e h => ?_
   simp only [↓reduceIte, reduceCtorEq, nA, nS, nM, nE, nL, nT, nB, iT, iN, iE, and_self, SR, SV, encApiBlock]
   refine Mir.use (e := e) ?_ h
   refine Mir.join (fun v121 : Unit => [U, U, U, U, U, U, U, U, U, U, U, U, U, U, U, U, U, U, U, U, U, U, U, U, U, U, U, U, U, U, U, U]) (fun v121 : Unit => ⟨[], []⟩) (fun _ => rfl) ?_ ?_
   ·refine Mir.block ?_
    refine Mir.guard fun qg67 => ?_
    refine Mir.range (fun (i139 : Nat) (v140 : Unit) => [.d (.list (List.map encApiBlock a0)), U, U, U, U, .d (.int .i64 (i139 : Int)), U, U, U, U, U, U, U, U, U, U, U, U, U, U, U, U, U, U, U, U, U, U, U, U, U, U]) (fun (i139 : Nat) (v140 : Unit) => ⟨[], []⟩) qg67 (fun _ _ => rfl) (by simp only [↓reduceIte, reduceCtorEq, nA, nE, nL, and_self, and_true, true_and, SL, encApiBlock, (nr rfl : ((0 : Nat) : Int) = 0)]) (by simp only [↓reduceIte, reduceCtorEq, nA, nE, nL, and_self, and_true, true_and, SL, encApiBlock, (nr rfl : ((0 : Nat) : Int) = 0)]) ?_ ?_
    ·intro i139 e141 v140 qr65
     refine Mir.seqK ?_
     refine Mir.seqK ?_
     refine Mir.region fun e h => ?_
     simp only [↓reduceIte, reduceCtorEq, nA, nS, nM, nE, nL, nT, nB, iT, iN, iE, and_self, SR, SV, und_43, qr65, encApiBlock]
     refine Mir.use (e := e) ?_ h
     refine Mir.condT rfl ?_
     refine Mir.skip ?_
     refine Mir.toK ?_
     refine Mir.seqK ?_
     refine Mir.block ?_
     refine Mir.seqK ?_
     refine Mir.joinV [.d (.list (List.map encApiBlock a0)), U, U, U, U, .d (.int .i64 (i139 : Int)), U, U, U, U, U, U, U, U, U, U, U, U, U, U, U, U, U, U, U, U, U, U, U, U, U, .d (.bool ((decide ((e141.Words.length : Int) > 20)) || (decide ((e141.Comment.length : Int) > 120))))] ⟨[], []⟩ rfl ?_ ?_
     ·refine SWs.region ?_
      rcases Bool.eq_false_or_eq_true (decide ((e141.Words.length : Int) > 20)) with hb70 | hb70
      ·simp only [↓reduceIte, reduceCtorEq, nA, nS, nM, nE, nL, nT, nB, iT, iN, iE, and_self, SR, SV, SL, Bool.true_and, Bool.false_and, Bool.true_or, Bool.false_or, Bool.or_true, Bool.or_false, Bool.and_true, Bool.and_false, Bool.not_true, Bool.not_false, und_43, sz_42, qr65, Int.toNat_natCast, fld_42_1, sz_40, ag_40, und_40, hb70, encApiBlock]
      ·simp only [↓reduceIte, reduceCtorEq, nA, nS, nM, nE, nL, nT, nB, iT, iN, iE, and_self, SR, SV, SL, Bool.true_and, Bool.false_and, Bool.true_or, Bool.false_or, Bool.or_true, Bool.or_false, Bool.and_true, Bool.and_false, Bool.not_true, Bool.not_false, und_43, sz_42, qr65, Int.toNat_natCast, fld_42_1, sz_40, ag_40, und_40, fld_42_2, sz_9, ag_9, und_9, hb70, encApiBlock]
     ·refine Mir.toK ?_
      refine Mir.cond rfl (fun hb72 => ?_) (fun hb72 => ?_)
      ·refine Mir.seqK ?_
       refine Mir.region fun e h => ?_
       simp only [↓reduceIte, reduceCtorEq, nA, nS, nM, nE, nL, nT, nB, iT, iN, iE, and_self, SR, SV, encApiBlock]
       refine Mir.use (e := e) ?_ h
       refine Mir.ret fun e h => ?_
       cases h
       simp only [↓reduceIte, reduceCtorEq, nA, nE, nL, and_self, and_true, true_and, SL, encApiBlock, Tryd.results25]
      ·refine Mir.skip ?_
       refine Mir.toB ?_
       refine Mir.toK ?_
       refine Mir.region fun e h => ?_
       simp only [↓reduceIte, reduceCtorEq, nA, nS, nM, nE, nL, nT, nB, iT, iN, iE, and_self, SR, SV, encApiBlock]
       cases h
       simp only [↓reduceIte, reduceCtorEq, nA, nE, nL, and_self, and_true, true_and, SL, encApiBlock, Tryd.results25, qr65]
    ·intro v140 qd66
     refine Mir.seqK ?_
     refine Mir.seqK ?_
     refine Mir.region fun e h => ?_
     simp only [↓reduceIte, reduceCtorEq, nA, nS, nM, nE, nL, nT, nB, iT, iN, iE, and_self, SR, SV, und_43, qd66, encApiBlock]
     refine Mir.use (e := e) ?_ h
     refine Mir.condF rfl ?_
     refine Mir.exit fun e h => ?_
     cases h
     simp only [↓reduceIte, reduceCtorEq, nA, nE, nL, and_self, and_true, true_and, SL, encApiBlock, Tryd.results25]
   ·intro v121
    refine Mir.toK ?_
    refine Mir.seqK ?_
    refine Mir.region fun e h => ?_
    simp only [↓reduceIte, reduceCtorEq, nA, nS, nM, nE, nL, nT, nB, iT, iN, iE, and_self, SR, SV, encApiBlock]
    refine Mir.use (e := e) ?_ h
    refine Mir.ret fun e h => ?_
    cases h
    simp only [↓reduceIte, reduceCtorEq, nA, nE, nL, and_self, and_true, true_and, SL, encApiBlock, Tryd.results25]

def r47_Few (a0 : (List ApiBlock)) (a1 : Int) : Option Bool :=
  bindO (r41_Few a0 a1) fun (y101 : Bool) =>
  if (!y101) = true then
    some false
  else
    bindX (guardO (okIdx a0) (
        rangeX (fun (i391 : Nat) (e393 : ApiBlock) (v392 : Unit) =>
          bindX (loopX (fun (v420 : Int) =>
                if (decide (v420 < (e393.Words.length : Int))) = true then
                  bindO (gt e393.Words v420) fun (e422 : ApiWord) =>
                  if (if (e422.Letter == 73) = true then (decide (e422.Value > 50000)) || (decide (e422.Value < (-50000))) else (e422.Letter == 74) && ((decide (e422.Value > 50000)) || (decide (e422.Value < (-50000))))) = true then
                    some (.ret (.ret (.ret (.ret false))))
                  else
                    some (.go (IntKind.i64.wrap (v420 + 1)))
                else
                  some (.ret (.go ()))) fuel 0) fun (v408 : Unit) =>
          some (.go ())) (fun (v392 : Unit) => some (.go ())) a0 0 ())) fun (v262 : Unit) =>
    some true
theorem r47_Few_spec {a0 : (List ApiBlock)} {a1 : Int} {y : Bool} (h : r47_Few a0 a1 = some y) : Spec gP 45 [.d (.list (List.map encApiBlock a0)), .d (.int .i64 a1)] (.d (.bool y)) := by
  refine spec_mir Tryd.func45 rfl (by kernel_rfl) (by kernel_rfl) (fun y : Bool => .d (.bool y)) ?_ h
  unfold r47_Few
  simp only [List.replicate, List.length, nS, nA, Tryd.ntmps45, SV]
  refine Mir.seqK ?_
  refine Mir.region fun e h => ?_
  simp only [↓reduceIte, reduceCtorEq, nA, nS, nM, nE, nL, nT, nB, iT, iN, iE, and_self, SR, SV, encApiBlock, encApiWord]
  refine Mir.use (e := e) ?_ h
  refine Mir.seqK ?_
  refine Mir.seqK ?_
  refine Mir.bind fun y101 hy1 => ?_
  refine Mir.region fun e h => ?_
  simp only [↓reduceIte, reduceCtorEq, nA, nS, nM, nE, nL, nT, nB, iT, iN, iE, and_self, SR, SV, encApiBlock, encApiWord]
  refine SpecS.by (r41_Few_spec hy1) (by simp only [↓reduceIte, reduceCtorEq, nA, nE, nL, and_self, and_true, true_and, SL, encApiBlock, encApiWord]) ?_
  simp only [↓reduceIte, reduceCtorEq, nA, nS, nM, nE, nL, nT, nB, iT, iN, iE, and_self, SR, SV, encApiBlock, encApiWord]
  refine Mir.use (e := e) ?_ h
  refine Mir.cond rfl (fun hb3 => ?_) (fun hb3 => ?_)
  ·refine Mir.seqK ?_
   refine Mir.region fun e h => ?_
   simp only [↓reduceIte, reduceCtorEq, nA, nS, nM, nE, nL, nT, nB, iT, iN, iE, and_self, SR, SV, encApiBlock]
   refine Mir.use (e := e) ?_ h
   refine Mir.ret fun e h => ?_
   cases h
   simp only [↓reduceIte, reduceCtorEq, nA, nE, nL, and_self, and_true, true_and, SL, encApiBlock, Tryd.results45]
  ·refine Mir.skip ?_
   refine Mir.toK ?_
   refine Mir.seqK ?_
   refine Mir.seqK ?_
   refine Mir.region fun e h => ?_
   simp only [↓reduceIte, reduceCtorEq, nA, nS, nM, nE, nL, nT, nB, iT, iN, iE, and_self, SR, SV, encApiBlock, encApiWord]
   refine Mir.use (e := e) ?_ h
   refine Mir.join (fun v262 : Unit => [U, U, U, U, U, U, U, U, U, U, U, U, U, U, U, U, U, U, U, U, U, U, U, U, U, U, U, U, U, U, U, U, U, U, U, U, U, U, U, U, U, U, U, U, U, U, U, U, U, U, U, U, U, U]) (fun v262 : Unit => ⟨[], []⟩) (fun _ => rfl) ?_ ?_
   ·refine Mir.block ?_
    refine Mir.guard fun qg933 => ?_
    refine Mir.range (fun (i391 : Nat) (v392 : Unit) => [.d (.list (List.map encApiBlock a0)), U, U, U, U, .d (.int .i64 (i391 : Int)), U, U, U, U, U, U, U, U, U, U, U, U, U, U, U, U, U, U, U, U, U, U, U, U, U, U, U, U, U, U, U, U, U, U, U, U, U, U, U, U, U, U, U, U, U, U, U, U]) (fun (i391 : Nat) (v392 : Unit) => ⟨[], []⟩) qg933 (fun _ _ => rfl) (by simp only [↓reduceIte, reduceCtorEq, nA, nE, nL, and_self, and_true, true_and, SL, encApiBlock, encApiWord, (nr rfl : ((0 : Nat) : Int) = 0)]) (by simp only [↓reduceIte, reduceCtorEq, nA, nE, nL, and_self, and_true, true_and, SL, encApiBlock, encApiWord, (nr rfl : ((0 : Nat) : Int) = 0)]) ?_ ?_
    ·intro i391 e393 v392 qr931
     refine Mir.seqK ?_
     refine Mir.seqK ?_
     refine Mir.region fun e h => ?_
     simp only [↓reduceIte, reduceCtorEq, nA, nS, nM, nE, nL, nT, nB, iT, iN, iE, and_self, SR, SV, und_43, qr931, encApiBlock, encApiWord]
     refine Mir.use (e := e) ?_ h
     refine Mir.condT rfl ?_
     refine Mir.skip ?_
     refine Mir.toK ?_
     refine Mir.seqK ?_
     refine Mir.join (fun v408 : Unit => [.d (.list (List.map encApiBlock a0)), U, U, U, U, .d (.int .i64 (i391 : Int)), U, U, U, U, U, U, U, U, U, U, U, U, U, U, U, U, U, U, U, U, U, U, U, U, U, U, U, U, U, U, U, U, U, U, U, U, U, U, U, U, U, U, U, U, U, U, U, U]) (fun v408 : Unit => ⟨[], []⟩) (fun _ => rfl) ?_ ?_
     ·refine Mir.block ?_
      refine Mir.seqK ?_
      refine Mir.region fun e h => ?_
      simp only [↓reduceIte, reduceCtorEq, nA, nS, nM, nE, nL, nT, nB, iT, iN, iE, and_self, SR, SV, encApiBlock, encApiWord]
      refine Mir.use (e := e) ?_ h
      refine Mir.block ?_
      refine Mir.loop (fun v420 : Int => [.d (.list (List.map encApiBlock a0)), U, U, U, U, .d (.int .i64 (i391 : Int)), .d (.int .i64 v420), U, U, U, U, U, U, U, U, U, U, U, U, U, U, U, U, U, U, U, U, U, U, U, U, U, U, U, U, U, U, U, U, U, U, U, U, U, U, U, U, U, U, U, U, U, U, U]) (fun v420 : Int => ⟨[], []⟩) (fun _ => rfl) (by simp only [↓reduceIte, reduceCtorEq, nA, nE, nL, and_self, and_true, true_and, SL, encApiBlock, encApiWord]) (by simp only [↓reduceIte, reduceCtorEq, nA, nE, nL, and_self, and_true, true_and, SL, encApiBlock, encApiWord]) fun v420 => ?_
      refine Mir.seqK ?_
      refine Mir.seqK ?_
      refine Mir.region fun e h => ?_
      simp only [↓reduceIte, reduceCtorEq, nA, nS, nM, nE, nL, nT, nB, iT, iN, iE, and_self, SR, SV, und_43, sz_42, qr931, Int.toNat_natCast, fld_42_1, sz_40, ag_40, und_40, encApiBlock, encApiWord]
      refine Mir.use (e := e) ?_ h
      refine Mir.cond rfl (fun hb1040 => ?_) (fun hb1040 => ?_)
      ·refine Mir.skip ?_
       refine Mir.toK ?_
       refine Mir.seqK ?_
       refine Mir.block ?_
       refine Mir.seqK ?_
       refine Mir.bind fun e422 q1047 => ?_
       replace q1047 := gt_ok q1047
       refine Mir.region fun e h => ?_
       simp only [↓reduceIte, reduceCtorEq, nA, nS, nM, nE, nL, nT, nB, iT, iN, iE, and_self, SR, SV, und_43, sz_42, qr931, Int.toNat_natCast, fld_42_1, sz_40, ag_40, und_40, sz_38, q1047, ag_38, zero_38, encApiBlock, encApiWord]
       refine Mir.use (e := e) ?_ h
       refine Mir.seqK ?_
       refine Mir.joinV [.d (.list (List.map encApiBlock a0)), U, U, U, U, .d (.int .i64 (i391 : Int)), .d (.int .i64 v420), U, U, U, U, U, U, U, U, U, U, U, U, U, U, U, U, U, U, U, U, U, U, U, U, U, U, U, U, U, U, U, U, U, U, U, U, U, U, U, U, U, U, U, U, U, U, .d (.bool (if (e422.Letter == 73) = true then (decide (e422.Value > 50000)) || (decide (e422.Value < (-50000))) else (e422.Letter == 74) && ((decide (e422.Value > 50000)) || (decide (e422.Value < (-50000))))))] ⟨[[.d (.int .u8 e422.Letter), .d (.int .i64 e422.Value)]], []⟩ rfl ?_ ?_
       ·refine SWs.region ?_
        rcases Bool.eq_false_or_eq_true (e422.Letter == 73) with hb1048 | hb1048
        ·rcases Bool.eq_false_or_eq_true (decide (e422.Value > 50000)) with hb1049 | hb1049
         ·simp only [↓reduceIte, reduceCtorEq, nA, nS, nM, nE, nL, nT, nB, iT, iN, iE, and_self, SR, SV, SL, Bool.true_and, Bool.false_and, Bool.true_or, Bool.false_or, Bool.or_true, Bool.or_false, Bool.and_true, Bool.and_false, Bool.not_true, Bool.not_false, fld_38_0, sz_5, ag_5, fld_38_1, sz_2, ag_2, hb1048, hb1049, encApiBlock, encApiWord]
         ·simp only [↓reduceIte, reduceCtorEq, nA, nS, nM, nE, nL, nT, nB, iT, iN, iE, and_self, SR, SV, SL, Bool.true_and, Bool.false_and, Bool.true_or, Bool.false_or, Bool.or_true, Bool.or_false, Bool.and_true, Bool.and_false, Bool.not_true, Bool.not_false, fld_38_0, sz_5, ag_5, fld_38_1, sz_2, ag_2, hb1048, hb1049, encApiBlock, encApiWord]
        ·rcases Bool.eq_false_or_eq_true (e422.Letter == 74) with hb1050 | hb1050
         ·rcases Bool.eq_false_or_eq_true (decide (e422.Value > 50000)) with hb1051 | hb1051
          ·simp only [↓reduceIte, reduceCtorEq, nA, nS, nM, nE, nL, nT, nB, iT, iN, iE, and_self, SR, SV, SL, Bool.true_and, Bool.false_and, Bool.true_or, Bool.false_or, Bool.or_true, Bool.or_false, Bool.and_true, Bool.and_false, Bool.not_true, Bool.not_false, fld_38_0, sz_5, ag_5, fld_38_1, sz_2, ag_2, hb1048, hb1050, hb1051, encApiBlock, encApiWord]
          ·simp only [↓reduceIte, reduceCtorEq, nA, nS, nM, nE, nL, nT, nB, iT, iN, iE, and_self, SR, SV, SL, Bool.true_and, Bool.false_and, Bool.true_or, Bool.false_or, Bool.or_true, Bool.or_false, Bool.and_true, Bool.and_false, Bool.not_true, Bool.not_false, fld_38_0, sz_5, ag_5, fld_38_1, sz_2, ag_2, hb1048, hb1050, hb1051, encApiBlock, encApiWord]
         ·simp only [↓reduceIte, reduceCtorEq, nA, nS, nM, nE, nL, nT, nB, iT, iN, iE, and_self, SR, SV, SL, Bool.true_and, Bool.false_and, Bool.true_or, Bool.false_or, Bool.or_true, Bool.or_false, Bool.and_true, Bool.and_false, Bool.not_true, Bool.not_false, fld_38_0, sz_5, ag_5, hb1048, hb1050, encApiBlock, encApiWord]
       ·refine Mir.toK ?_
        refine Mir.cond rfl (fun hb1053 => ?_) (fun hb1053 => ?_)
        ·refine Mir.seqK ?_
         refine Mir.region fun e h => ?_
         simp only [↓reduceIte, reduceCtorEq, nA, nS, nM, nE, nL, nT, nB, iT, iN, iE, and_self, SR, SV, encApiBlock, encApiWord]
         refine Mir.use (e := e) ?_ h
         refine Mir.ret fun e h => ?_
         cases h
         simp only [↓reduceIte, reduceCtorEq, nA, nE, nL, and_self, and_true, true_and, SL, encApiBlock, encApiWord, Tryd.results45]
        ·refine Mir.skip ?_
         refine Mir.toB ?_
         refine Mir.toK ?_
         refine Mir.region fun e h => ?_
         simp only [↓reduceIte, reduceCtorEq, nA, nS, nM, nE, nL, nT, nB, iT, iN, iE, and_self, SR, SV, encApiBlock, encApiWord]
         cases h
         simp only [↓reduceIte, reduceCtorEq, nA, nE, nL, and_self, and_true, true_and, SL, encApiBlock, encApiWord, Tryd.results45]
      ·refine Mir.exit fun e h => ?_
       cases h
       simp only [↓reduceIte, reduceCtorEq, nA, nE, nL, and_self, and_true, true_and, SL, encApiBlock, encApiWord, Tryd.results45]
     ·intro v408
      refine Mir.toK ?_
      refine Mir.region fun e h => ?_
      simp only [↓reduceIte, reduceCtorEq, nA, nS, nM, nE, nL, nT, nB, iT, iN, iE, and_self, SR, SV, encApiBlock, encApiWord]
      cases h
      simp only [↓reduceIte, reduceCtorEq, nA, nE, nL, and_self, and_true, true_and, SL, encApiBlock, encApiWord, Tryd.results45, qr931]
    ·intro v392 qd932
     refine Mir.seqK ?_
     refine Mir.seqK ?_
     refine Mir.region fun e h => ?_
     simp only [↓reduceIte, reduceCtorEq, nA, nS, nM, nE, nL, nT, nB, iT, iN, iE, and_self, SR, SV, und_43, qd932, encApiBlock, encApiWord]
     refine Mir.use (e := e) ?_ h
     refine Mir.condF rfl ?_
     refine Mir.exit fun e h => ?_
     cases h
     simp only [↓reduceIte, reduceCtorEq, nA, nE, nL, and_self, and_true, true_and, SL, encApiBlock, encApiWord, Tryd.results45]
   ·intro v262
    refine Mir.toK ?_
    refine Mir.seqK ?_
    refine Mir.region fun e h => ?_
    simp only [↓reduceIte, reduceCtorEq, nA, nS, nM, nE, nL, nT, nB, iT, iN, iE, and_self, SR, SV, encApiBlock, encApiWord]
    refine Mir.use (e := e) ?_ h
    refine Mir.ret fun e h => ?_
    cases h
    simp only [↓reduceIte, reduceCtorEq, nA, nE, nL, and_self, and_true, true_and, SL, encApiBlock, encApiWord, Tryd.results45]

def l47_few (a0 : (List ApiBlock)) (a1 : L47Setting) : Option Bool :=
  bindO (bindO (r47_Few a0 40) fun (y101 : Bool) =>
      if y101 = true then
        some (decide ((a1.Table.Lengths.length : Int) ≤ 20))
      else
        some false) fun (v102 : Bool) =>
  some v102
theorem l47_few_spec {a0 : (List ApiBlock)} {a1 : L47Setting} {y : Bool} (h : l47_few a0 a1 = some y) : Spec gP 18 [.d (.list (List.map encApiBlock a0)), .agg [.d (.int .i64 a1.Table.Work.e0.X), .d (.int .i64 a1.Table.Work.e0.Y), .d (.int .i64 a1.Table.Work.e0.Z), .d (.int .i64 a1.Table.Work.e1.X), .d (.int .i64 a1.Table.Work.e1.Y), .d (.int .i64 a1.Table.Work.e1.Z), .d (.int .i64 a1.Table.Work.e2.X), .d (.int .i64 a1.Table.Work.e2.Y), .d (.int .i64 a1.Table.Work.e2.Z), .d (.int .i64 a1.Table.Work.e3.X), .d (.int .i64 a1.Table.Work.e3.Y), .d (.int .i64 a1.Table.Work.e3.Z), .d (.int .i64 a1.Table.Work.e4.X), .d (.int .i64 a1.Table.Work.e4.Y), .d (.int .i64 a1.Table.Work.e4.Z), .d (.int .i64 a1.Table.Work.e5.X), .d (.int .i64 a1.Table.Work.e5.Y), .d (.int .i64 a1.Table.Work.e5.Z), .d (.list (List.map encR45Length a1.Table.Lengths)), .d (.int .i64 a1.From.X), .d (.int .i64 a1.From.Y), .d (.int .i64 a1.From.Z)]] (.d (.bool y)) := by
  refine spec_mir Tryd.func18 rfl (by kernel_rfl) (by kernel_rfl) (fun y : Bool => .d (.bool y)) ?_ h
  unfold l47_few
  simp only [List.replicate, List.length, nS, nA, Tryd.ntmps18, SV]
  refine Mir.seqK ?_
  refine Mir.region fun e h => ?_
  simp only [↓reduceIte, reduceCtorEq, nA, nS, nM, nE, nL, nT, nB, iT, iN, iE, and_self, SR, SV, encApiBlock, encR45Length]
  refine Mir.use (e := e) ?_ h
  refine Mir.seqK ?_
  refine Mir.joinO (fun v102 : Bool => [U, U, U, U, .d (.bool v102), U, U, U, U, U, U, U, U, U]) (fun v102 : Bool => ⟨[[.d (.int .i64 a1.Table.Work.e0.X), .d (.int .i64 a1.Table.Work.e0.Y), .d (.int .i64 a1.Table.Work.e0.Z), .d (.int .i64 a1.Table.Work.e1.X), .d (.int .i64 a1.Table.Work.e1.Y), .d (.int .i64 a1.Table.Work.e1.Z), .d (.int .i64 a1.Table.Work.e2.X), .d (.int .i64 a1.Table.Work.e2.Y), .d (.int .i64 a1.Table.Work.e2.Z), .d (.int .i64 a1.Table.Work.e3.X), .d (.int .i64 a1.Table.Work.e3.Y), .d (.int .i64 a1.Table.Work.e3.Z), .d (.int .i64 a1.Table.Work.e4.X), .d (.int .i64 a1.Table.Work.e4.Y), .d (.int .i64 a1.Table.Work.e4.Z), .d (.int .i64 a1.Table.Work.e5.X), .d (.int .i64 a1.Table.Work.e5.Y), .d (.int .i64 a1.Table.Work.e5.Z), .d (.list (List.map encR45Length a1.Table.Lengths)), .d (.int .i64 a1.From.X), .d (.int .i64 a1.From.Y), .d (.int .i64 a1.From.Z)]], []⟩) (fun _ => rfl) ?_ ?_
  ·refine Mir.bind fun y101 hy1 => ?_
   refine Mir.ite (fun hb2 => ?_) (fun hb2 => ?_)
   ·refine Mir.region fun e h => ?_
    simp only [↓reduceIte, reduceCtorEq, nA, nS, nM, nE, nL, nT, nB, iT, iN, iE, and_self, SR, SV, encApiBlock, encR45Length, hb2]
    refine SpecS.by (r47_Few_spec hy1) (by simp only [↓reduceIte, reduceCtorEq, nA, nE, nL, and_self, and_true, true_and, SL, encApiBlock, encR45Length, hb2]) ?_
    simp only [↓reduceIte, reduceCtorEq, nA, nS, nM, nE, nL, nT, nB, iT, iN, iE, and_self, SR, SV, fld_30_0, sz_28, fld_28_1, sz_26, ag_26, und_26, encApiBlock, encR45Length, hb2]
    cases h
    simp only [↓reduceIte, reduceCtorEq, nA, nE, nL, and_self, and_true, true_and, SL, encApiBlock, encR45Length, hb2]
   ·refine Mir.region fun e h => ?_
    simp only [↓reduceIte, reduceCtorEq, nA, nS, nM, nE, nL, nT, nB, iT, iN, iE, and_self, SR, SV, encApiBlock, encR45Length, hb2]
    refine SpecS.by (r47_Few_spec hy1) (by simp only [↓reduceIte, reduceCtorEq, nA, nE, nL, and_self, and_true, true_and, SL, encApiBlock, encR45Length, hb2]) ?_
    simp only [↓reduceIte, reduceCtorEq, nA, nS, nM, nE, nL, nT, nB, iT, iN, iE, and_self, SR, SV, encApiBlock, encR45Length, hb2]
    cases h
    simp only [↓reduceIte, reduceCtorEq, nA, nE, nL, and_self, and_true, true_and, SL, encApiBlock, encR45Length, hb2]
  ·intro v102
   refine Mir.toK ?_
   refine Mir.ret fun e h => ?_
   cases h
   simp only [↓reduceIte, reduceCtorEq, nA, nE, nL, and_self, and_true, true_and, SL, encApiBlock, encR45Length, Tryd.results18]

def r47_far (a0 : Int) : Option Bool :=
  some ((decide (a0 > 10000000)) || (decide (a0 < (-10000000))))
theorem r47_far_spec {a0 : Int} {y : Bool} (h : r47_far a0 = some y) : Spec gP 40 [.d (.int .i64 a0)] (.d (.bool y)) := by
  refine spec_mir Tryd.func40 rfl (by kernel_rfl) (by kernel_rfl) (fun y : Bool => .d (.bool y)) ?_ h
  unfold r47_far
  simp only [List.replicate, List.length, nS, nA, Tryd.ntmps40, SV]
  refine Mir.seqK ?_
  refine Mir.region fun e h => ?_
  simp only [↓reduceIte, reduceCtorEq, nA, nS, nM, nE, nL, nT, nB, iT, iN, iE, and_self, SR, SV]
  refine Mir.use (e := e) ?_ h
  refine Mir.seqK ?_
  refine Mir.joinV [U, U, .d (.bool ((decide (a0 > 10000000)) || (decide (a0 < (-10000000))))), U, U, U, U, U, U] ⟨[], []⟩ rfl ?_ ?_
  ·refine SWs.region ?_
   rcases Bool.eq_false_or_eq_true (decide (a0 > 10000000)) with hb1 | hb1
   ·simp only [↓reduceIte, reduceCtorEq, nA, nS, nM, nE, nL, nT, nB, iT, iN, iE, and_self, SR, SV, SL, Bool.true_and, Bool.false_and, Bool.true_or, Bool.false_or, Bool.or_true, Bool.or_false, Bool.and_true, Bool.and_false, Bool.not_true, Bool.not_false, hb1]
   ·simp only [↓reduceIte, reduceCtorEq, nA, nS, nM, nE, nL, nT, nB, iT, iN, iE, and_self, SR, SV, SL, Bool.true_and, Bool.false_and, Bool.true_or, Bool.false_or, Bool.or_true, Bool.or_false, Bool.and_true, Bool.and_false, Bool.not_true, Bool.not_false, hb1]
  ·refine Mir.toK ?_
   refine Mir.ret fun e h => ?_
   cases h
   simp only [↓reduceIte, reduceCtorEq, nA, nE, nL, and_self, and_true, true_and, SL, Tryd.results40]

def r47_InRange (a0 : ApiPos) : Option Bool :=
  bindO (bindO (r47_far a0.X) fun (y101 : Bool) =>
      if y101 = true then
        some false
      else
        bindO (r47_far a0.Y) fun (y102 : Bool) =>
        if y102 = true then
          some false
        else
          bindO (r47_far a0.Z) fun (y103 : Bool) =>
          some (!y103)) fun (v104 : Bool) =>
  some v104
theorem r47_InRange_spec {a0 : ApiPos} {y : Bool} (h : r47_InRange a0 = some y) : Spec gP 11 [.agg [.d (.int .i64 a0.X), .d (.int .i64 a0.Y), .d (.int .i64 a0.Z)]] (.d (.bool y)) := by
  refine spec_mir Tryd.func11 rfl (by kernel_rfl) (by kernel_rfl) (fun y : Bool => .d (.bool y)) ?_ h
  unfold r47_InRange
  simp only [List.replicate, List.length, nS, nA, Tryd.ntmps11, SV]
  refine Mir.seqK ?_
  refine Mir.region fun e h => ?_
  simp only [↓reduceIte, reduceCtorEq, nA, nS, nM, nE, nL, nT, nB, iT, iN, iE, and_self, SR, SV]
  refine Mir.use (e := e) ?_ h
  refine Mir.seqK ?_
  refine Mir.joinO (fun v104 : Bool => [U, U, .d (.bool v104), U, U, U, U, U, U, U, U, U, U, U, U, U, U, U, U]) (fun v104 : Bool => ⟨[[.d (.int .i64 a0.X), .d (.int .i64 a0.Y), .d (.int .i64 a0.Z)]], []⟩) (fun _ => rfl) ?_ ?_
  ·refine Mir.bind fun y101 hy1 => ?_
   refine Mir.ite (fun hb2 => ?_) (fun hb2 => ?_)
   ·refine Mir.region fun e h => ?_
    simp only [↓reduceIte, reduceCtorEq, nA, nS, nM, nE, nL, nT, nB, iT, iN, iE, and_self, SR, SV, fld_24_0, sz_2, ag_2, hb2]
    refine SpecS.by (r47_far_spec hy1) (by simp only [↓reduceIte, reduceCtorEq, nA, nE, nL, and_self, and_true, true_and, SL, hb2]) ?_
    simp only [↓reduceIte, reduceCtorEq, nA, nS, nM, nE, nL, nT, nB, iT, iN, iE, and_self, SR, SV, hb2]
    cases h
    simp only [↓reduceIte, reduceCtorEq, nA, nE, nL, and_self, and_true, true_and, SL, hb2]
   ·refine Mir.bind fun y102 hy3 => ?_
    refine Mir.ite (fun hb4 => ?_) (fun hb4 => ?_)
    ·refine Mir.region fun e h => ?_
     simp only [↓reduceIte, reduceCtorEq, nA, nS, nM, nE, nL, nT, nB, iT, iN, iE, and_self, SR, SV, fld_24_0, sz_2, ag_2, hb2, hb4]
     refine SpecS.by (r47_far_spec hy1) (by simp only [↓reduceIte, reduceCtorEq, nA, nE, nL, and_self, and_true, true_and, SL, hb2, hb4]) ?_
     simp only [↓reduceIte, reduceCtorEq, nA, nS, nM, nE, nL, nT, nB, iT, iN, iE, and_self, SR, SV, fld_24_1, sz_2, ag_2, hb2, hb4]
     refine SpecS.by (r47_far_spec hy3) (by simp only [↓reduceIte, reduceCtorEq, nA, nE, nL, and_self, and_true, true_and, SL, hb2, hb4]) ?_
     simp only [↓reduceIte, reduceCtorEq, nA, nS, nM, nE, nL, nT, nB, iT, iN, iE, and_self, SR, SV, hb2, hb4]
     cases h
     simp only [↓reduceIte, reduceCtorEq, nA, nE, nL, and_self, and_true, true_and, SL, hb2, hb4]
    ·refine Mir.bind fun y103 hy5 => ?_
     refine Mir.region fun e h => ?_
     simp only [↓reduceIte, reduceCtorEq, nA, nS, nM, nE, nL, nT, nB, iT, iN, iE, and_self, SR, SV, fld_24_0, sz_2, ag_2, hb2, hb4]
     refine SpecS.by (r47_far_spec hy1) (by simp only [↓reduceIte, reduceCtorEq, nA, nE, nL, and_self, and_true, true_and, SL, hb2, hb4]) ?_
     simp only [↓reduceIte, reduceCtorEq, nA, nS, nM, nE, nL, nT, nB, iT, iN, iE, and_self, SR, SV, fld_24_1, sz_2, ag_2, hb2, hb4]
     refine SpecS.by (r47_far_spec hy3) (by simp only [↓reduceIte, reduceCtorEq, nA, nE, nL, and_self, and_true, true_and, SL, hb2, hb4]) ?_
     simp only [↓reduceIte, reduceCtorEq, nA, nS, nM, nE, nL, nT, nB, iT, iN, iE, and_self, SR, SV, fld_24_2, sz_2, ag_2, hb2, hb4]
     refine SpecS.by (r47_far_spec hy5) (by simp only [↓reduceIte, reduceCtorEq, nA, nE, nL, and_self, and_true, true_and, SL, hb2, hb4]) ?_
     simp only [↓reduceIte, reduceCtorEq, nA, nS, nM, nE, nL, nT, nB, iT, iN, iE, and_self, SR, SV, hb2, hb4]
     cases h
     simp only [↓reduceIte, reduceCtorEq, nA, nE, nL, and_self, and_true, true_and, SL, hb2, hb4]
  ·intro v104
   refine Mir.toK ?_
   refine Mir.ret fun e h => ?_
   cases h
   simp only [↓reduceIte, reduceCtorEq, nA, nE, nL, and_self, and_true, true_and, SL, Tryd.results11]

def r47_Same (a0 : (List ApiMotion)) (a1 : (List ApiMotion)) : Option Bool :=
  if ((a0.length : Int) != (a1.length : Int)) = true then
    some false
  else
    bindX (guardO (okIdx a0) (
        rangeX (fun (i141 : Nat) (e143 : ApiMotion) (v142 : Unit) =>
          bindO (gt a1 (i141 : Int)) fun (e145 : ApiMotion) =>
          if (!((e143.From.X == e145.From.X) && ((e143.From.Y == e145.From.Y) && ((e143.From.Z == e145.From.Z) && ((e143.To.X == e145.To.X) && ((e143.To.Y == e145.To.Y) && ((e143.To.Z == e145.To.Z) && ((e143.Rate == e145.Rate) && ((e143.Tool == e145.Tool) && (e143.Block == e145.Block)))))))))) = true then
            some (.ret (.ret false))
          else
            some (.go ())) (fun (v142 : Unit) => some (.go ())) a0 0 ())) fun (v123 : Unit) =>
    some true
theorem r47_Same_spec {a0 : (List ApiMotion)} {a1 : (List ApiMotion)} {y : Bool} (h : r47_Same a0 a1 = some y) : Spec gP 17 [.d (.list (List.map encApiMotion a0)), .d (.list (List.map encApiMotion a1))] (.d (.bool y)) := by
  refine spec_mir Tryd.func17 rfl (by kernel_rfl) (by kernel_rfl) (fun y : Bool => .d (.bool y)) ?_ h
  unfold r47_Same
  simp only [List.replicate, List.length, nS, nA, Tryd.ntmps17, SV]
  refine Mir.seqK ?_
  refine Mir.region fun e h => ?_
  simp only [↓reduceIte, reduceCtorEq, nA, nS, nM, nE, nL, nT, nB, iT, iN, iE, and_self, SR, SV, encApiMotion]
  refine Mir.use (e := e) ?_ h
  refine Mir.seqK ?_
  refine Mir.seqK ?_
  refine Mir.region fun e h => ?_
  simp only [↓reduceIte, reduceCtorEq, nA, nS, nM, nE, nL, nT, nB, iT, iN, iE, and_self, SR, SV, und_47, encApiMotion]
  refine Mir.use (e := e) ?_ h
  refine Mir.cond rfl (fun hb2 => ?_) (fun hb2 => ?_)
  ·refine Mir.seqK ?_
   refine Mir.region fun e h => ?_
   simp only [↓reduceIte, reduceCtorEq, nA, nS, nM, nE, nL, nT, nB, iT, iN, iE, and_self, SR, SV, encApiMotion]
   refine Mir.use (e := e) ?_ h
   refine Mir.ret fun e h => ?_
   cases h
   simp only [↓reduceIte, reduceCtorEq, nA, nE, nL, and_self, and_true, true_and, SL, encApiMotion, Tryd.results17]
  ·refine Mir.skip ?_
   refine Mir.toK ?_
   refine Mir.seqK ?_
   refine Mir.seqK ?_
   refine Mir.region fun e h => ?_
   simp only [↓reduceIte, reduceCtorEq, nA, nS, nM, nE, nL, nT, nB, iT, iN, iE, and_self, SR, SV, encApiMotion]
   refine Mir.use (e := e) ?_ h
   refine Mir.join (fun v123 : Unit => [U, U, U, U, U, U, U, U, U, U, U, U, U, U, U, U, U, U, U, U, U, U, U, U, U, U]) (fun v123 : Unit => ⟨[], []⟩) (fun _ => rfl) ?_ ?_
   ·refine Mir.block ?_
    refine Mir.guard fun qg67 => ?_
    refine Mir.range (fun (i141 : Nat) (v142 : Unit) => [.d (.list (List.map encApiMotion a0)), .d (.list (List.map encApiMotion a1)), U, U, U, .d (.int .i64 (i141 : Int)), U, U, U, U, U, U, U, U, U, U, U, U, U, U, U, U, U, U, U, U]) (fun (i141 : Nat) (v142 : Unit) => ⟨[], []⟩) qg67 (fun _ _ => rfl) (by simp only [↓reduceIte, reduceCtorEq, nA, nE, nL, and_self, and_true, true_and, SL, encApiMotion, (nr rfl : ((0 : Nat) : Int) = 0)]) (by simp only [↓reduceIte, reduceCtorEq, nA, nE, nL, and_self, and_true, true_and, SL, encApiMotion, (nr rfl : ((0 : Nat) : Int) = 0)]) ?_ ?_
    ·intro i141 e143 v142 qr65
     refine Mir.seqK ?_
     refine Mir.seqK ?_
     refine Mir.region fun e h => ?_
     simp only [↓reduceIte, reduceCtorEq, nA, nS, nM, nE, nL, nT, nB, iT, iN, iE, and_self, SR, SV, und_47, qr65, encApiMotion]
     refine Mir.use (e := e) ?_ h
     refine Mir.condT rfl ?_
     refine Mir.skip ?_
     refine Mir.toK ?_
     refine Mir.seqK ?_
     refine Mir.block ?_
     refine Mir.seqK ?_
     refine Mir.bind fun e145 q70 => ?_
     replace q70 := gt_ok q70
     simp only [Int.toNat_natCast] at q70
     refine Mir.regionD [] (by kernel_rfl) fun e h => ?_
     simp only [↓reduceIte, reduceCtorEq, nA, nS, nM, nE, nL, nT, nB, iT, iN, iE, and_self, SR, SV, sepL_nil, sepL_cons, sepV_ne, sepV_d, sepV_i, true_and, Bool.and_self, und_47, sz_62, qr65, Int.toNat_natCast, ag_62, q70, gE_62, encApiMotion]
     refine Mir.use (e := e) ?_ h
     refine Mir.cond rfl (fun hb72 => ?_) (fun hb72 => ?_)
     ·refine Mir.seqK ?_
      refine Mir.region fun e h => ?_
      simp only [↓reduceIte, reduceCtorEq, nA, nS, nM, nE, nL, nT, nB, iT, iN, iE, and_self, SR, SV, encApiMotion]
      refine Mir.use (e := e) ?_ h
      refine Mir.ret fun e h => ?_
      cases h
      simp only [↓reduceIte, reduceCtorEq, nA, nE, nL, and_self, and_true, true_and, SL, encApiMotion, Tryd.results17]
     ·refine Mir.skip ?_
      refine Mir.toB ?_
      refine Mir.toK ?_
      refine Mir.region fun e h => ?_
      simp only [↓reduceIte, reduceCtorEq, nA, nS, nM, nE, nL, nT, nB, iT, iN, iE, and_self, SR, SV, encApiMotion]
      cases h
      simp only [↓reduceIte, reduceCtorEq, nA, nE, nL, and_self, and_true, true_and, SL, encApiMotion, Tryd.results17, qr65]
    ·intro v142 qd66
     refine Mir.seqK ?_
     refine Mir.seqK ?_
     refine Mir.region fun e h => ?_
     simp only [↓reduceIte, reduceCtorEq, nA, nS, nM, nE, nL, nT, nB, iT, iN, iE, and_self, SR, SV, und_47, qd66, encApiMotion]
     refine Mir.use (e := e) ?_ h
     refine Mir.condF rfl ?_
     refine Mir.exit fun e h => ?_
     cases h
     simp only [↓reduceIte, reduceCtorEq, nA, nE, nL, and_self, and_true, true_and, SL, encApiMotion, Tryd.results17]
   ·intro v123
    refine Mir.toK ?_
    refine Mir.seqK ?_
    refine Mir.region fun e h => ?_
    simp only [↓reduceIte, reduceCtorEq, nA, nS, nM, nE, nL, nT, nB, iT, iN, iE, and_self, SR, SV, encApiMotion]
    refine Mir.use (e := e) ?_ h
    refine Mir.ret fun e h => ?_
    cases h
    simp only [↓reduceIte, reduceCtorEq, nA, nE, nL, and_self, and_true, true_and, SL, encApiMotion, Tryd.results17]

def r45_far (a0 : Int) : Option Bool :=
  some ((decide (a0 > 10000000)) || (decide (a0 < (-10000000))))
theorem r45_far_spec {a0 : Int} {y : Bool} (h : r45_far a0 = some y) : Spec gP 62 [.d (.int .i64 a0)] (.d (.bool y)) := by
  refine spec_mir Tryd.func62 rfl (by kernel_rfl) (by kernel_rfl) (fun y : Bool => .d (.bool y)) ?_ h
  unfold r45_far
  simp only [List.replicate, List.length, nS, nA, Tryd.ntmps62, SV]
  refine Mir.seqK ?_
  refine Mir.region fun e h => ?_
  simp only [↓reduceIte, reduceCtorEq, nA, nS, nM, nE, nL, nT, nB, iT, iN, iE, and_self, SR, SV]
  refine Mir.use (e := e) ?_ h
  refine Mir.seqK ?_
  refine Mir.joinV [U, U, .d (.bool ((decide (a0 > 10000000)) || (decide (a0 < (-10000000))))), U, U, U, U, U, U] ⟨[], []⟩ rfl ?_ ?_
  ·refine SWs.region ?_
   rcases Bool.eq_false_or_eq_true (decide (a0 > 10000000)) with hb1 | hb1
   ·simp only [↓reduceIte, reduceCtorEq, nA, nS, nM, nE, nL, nT, nB, iT, iN, iE, and_self, SR, SV, SL, Bool.true_and, Bool.false_and, Bool.true_or, Bool.false_or, Bool.or_true, Bool.or_false, Bool.and_true, Bool.and_false, Bool.not_true, Bool.not_false, hb1]
   ·simp only [↓reduceIte, reduceCtorEq, nA, nS, nM, nE, nL, nT, nB, iT, iN, iE, and_self, SR, SV, SL, Bool.true_and, Bool.false_and, Bool.true_or, Bool.false_or, Bool.or_true, Bool.or_false, Bool.and_true, Bool.and_false, Bool.not_true, Bool.not_false, hb1]
  ·refine Mir.toK ?_
   refine Mir.ret fun e h => ?_
   cases h
   simp only [↓reduceIte, reduceCtorEq, nA, nE, nL, and_self, and_true, true_and, SL, Tryd.results62]

def r45_out (a0 : ApiPos) : Option Bool :=
  bindO (bindO (r45_far a0.X) fun (y101 : Bool) =>
      if y101 = true then
        some true
      else
        bindO (r45_far a0.Y) fun (y102 : Bool) =>
        if y102 = true then
          some true
        else
          bindO (r45_far a0.Z) fun (y103 : Bool) =>
          some y103) fun (v104 : Bool) =>
  some v104
theorem r45_out_spec {a0 : ApiPos} {y : Bool} (h : r45_out a0 = some y) : Spec gP 38 [.agg [.d (.int .i64 a0.X), .d (.int .i64 a0.Y), .d (.int .i64 a0.Z)]] (.d (.bool y)) := by
  refine spec_mir Tryd.func38 rfl (by kernel_rfl) (by kernel_rfl) (fun y : Bool => .d (.bool y)) ?_ h
  unfold r45_out
  simp only [List.replicate, List.length, nS, nA, Tryd.ntmps38, SV]
  refine Mir.seqK ?_
  refine Mir.region fun e h => ?_
  simp only [↓reduceIte, reduceCtorEq, nA, nS, nM, nE, nL, nT, nB, iT, iN, iE, and_self, SR, SV]
  refine Mir.use (e := e) ?_ h
  refine Mir.seqK ?_
  refine Mir.joinO (fun v104 : Bool => [U, U, .d (.bool v104), U, U, U, U, U, U, U, U, U, U, U, U, U]) (fun v104 : Bool => ⟨[[.d (.int .i64 a0.X), .d (.int .i64 a0.Y), .d (.int .i64 a0.Z)]], []⟩) (fun _ => rfl) ?_ ?_
  ·refine Mir.bind fun y101 hy1 => ?_
   refine Mir.ite (fun hb2 => ?_) (fun hb2 => ?_)
   ·refine Mir.region fun e h => ?_
    simp only [↓reduceIte, reduceCtorEq, nA, nS, nM, nE, nL, nT, nB, iT, iN, iE, and_self, SR, SV, fld_24_0, sz_2, ag_2, hb2]
    refine SpecS.by (r45_far_spec hy1) (by simp only [↓reduceIte, reduceCtorEq, nA, nE, nL, and_self, and_true, true_and, SL, hb2]) ?_
    simp only [↓reduceIte, reduceCtorEq, nA, nS, nM, nE, nL, nT, nB, iT, iN, iE, and_self, SR, SV, hb2]
    cases h
    simp only [↓reduceIte, reduceCtorEq, nA, nE, nL, and_self, and_true, true_and, SL, hb2]
   ·refine Mir.bind fun y102 hy3 => ?_
    refine Mir.ite (fun hb4 => ?_) (fun hb4 => ?_)
    ·refine Mir.region fun e h => ?_
     simp only [↓reduceIte, reduceCtorEq, nA, nS, nM, nE, nL, nT, nB, iT, iN, iE, and_self, SR, SV, fld_24_0, sz_2, ag_2, hb2, hb4]
     refine SpecS.by (r45_far_spec hy1) (by simp only [↓reduceIte, reduceCtorEq, nA, nE, nL, and_self, and_true, true_and, SL, hb2, hb4]) ?_
     simp only [↓reduceIte, reduceCtorEq, nA, nS, nM, nE, nL, nT, nB, iT, iN, iE, and_self, SR, SV, fld_24_1, sz_2, ag_2, hb2, hb4]
     refine SpecS.by (r45_far_spec hy3) (by simp only [↓reduceIte, reduceCtorEq, nA, nE, nL, and_self, and_true, true_and, SL, hb2, hb4]) ?_
     simp only [↓reduceIte, reduceCtorEq, nA, nS, nM, nE, nL, nT, nB, iT, iN, iE, and_self, SR, SV, hb2, hb4]
     cases h
     simp only [↓reduceIte, reduceCtorEq, nA, nE, nL, and_self, and_true, true_and, SL, hb2, hb4]
    ·refine Mir.bind fun y103 hy5 => ?_
     refine Mir.region fun e h => ?_
     simp only [↓reduceIte, reduceCtorEq, nA, nS, nM, nE, nL, nT, nB, iT, iN, iE, and_self, SR, SV, fld_24_0, sz_2, ag_2, hb2, hb4]
     refine SpecS.by (r45_far_spec hy1) (by simp only [↓reduceIte, reduceCtorEq, nA, nE, nL, and_self, and_true, true_and, SL, hb2, hb4]) ?_
     simp only [↓reduceIte, reduceCtorEq, nA, nS, nM, nE, nL, nT, nB, iT, iN, iE, and_self, SR, SV, fld_24_1, sz_2, ag_2, hb2, hb4]
     refine SpecS.by (r45_far_spec hy3) (by simp only [↓reduceIte, reduceCtorEq, nA, nE, nL, and_self, and_true, true_and, SL, hb2, hb4]) ?_
     simp only [↓reduceIte, reduceCtorEq, nA, nS, nM, nE, nL, nT, nB, iT, iN, iE, and_self, SR, SV, fld_24_2, sz_2, ag_2, hb2, hb4]
     refine SpecS.by (r45_far_spec hy5) (by simp only [↓reduceIte, reduceCtorEq, nA, nE, nL, and_self, and_true, true_and, SL, hb2, hb4]) ?_
     simp only [↓reduceIte, reduceCtorEq, nA, nS, nM, nE, nL, nT, nB, iT, iN, iE, and_self, SR, SV, hb2, hb4]
     cases h
     simp only [↓reduceIte, reduceCtorEq, nA, nE, nL, and_self, and_true, true_and, SL, hb2, hb4]
  ·intro v104
   refine Mir.toK ?_
   refine Mir.ret fun e h => ?_
   cases h
   simp only [↓reduceIte, reduceCtorEq, nA, nE, nL, and_self, and_true, true_and, SL, Tryd.results38]

def r45_entry (a0 : R45Length) : Option Bool :=
  some ((decide (a0.Number ≥ 1)) && ((decide (a0.Number ≤ 999)) && ((decide (a0.Length ≥ 0)) && (decide (a0.Length ≤ 10000000)))))
theorem r45_entry_spec {a0 : R45Length} {y : Bool} (h : r45_entry a0 = some y) : Spec gP 39 [.agg [.d (.int .i64 a0.Number), .d (.int .i64 a0.Length)]] (.d (.bool y)) := by
  refine spec_mir Tryd.func39 rfl (by kernel_rfl) (by kernel_rfl) (fun y : Bool => .d (.bool y)) ?_ h
  unfold r45_entry
  simp only [List.replicate, List.length, nS, nA, Tryd.ntmps39, SV]
  refine Mir.seqK ?_
  refine Mir.region fun e h => ?_
  simp only [↓reduceIte, reduceCtorEq, nA, nS, nM, nE, nL, nT, nB, iT, iN, iE, and_self, SR, SV]
  refine Mir.use (e := e) ?_ h
  refine Mir.seqK ?_
  refine Mir.joinV [U, U, .d (.bool ((decide (a0.Number ≥ 1)) && ((decide (a0.Number ≤ 999)) && ((decide (a0.Length ≥ 0)) && (decide (a0.Length ≤ 10000000)))))), U, U, U, U, U, U, U, U, U, U, U, U, U, U, U, U, U, U] ⟨[[.d (.int .i64 a0.Number), .d (.int .i64 a0.Length)]], []⟩ rfl ?_ ?_
  ·refine SWs.region ?_
   rcases Bool.eq_false_or_eq_true (decide (a0.Number ≥ 1)) with hb1 | hb1
   ·rcases Bool.eq_false_or_eq_true (decide (a0.Number ≤ 999)) with hb2 | hb2
    ·rcases Bool.eq_false_or_eq_true (decide (a0.Length ≥ 0)) with hb3 | hb3
     ·simp only [↓reduceIte, reduceCtorEq, nA, nS, nM, nE, nL, nT, nB, iT, iN, iE, and_self, SR, SV, SL, Bool.true_and, Bool.false_and, Bool.true_or, Bool.false_or, Bool.or_true, Bool.or_false, Bool.and_true, Bool.and_false, Bool.not_true, Bool.not_false, fld_93_0, sz_2, ag_2, fld_93_1, hb1, hb2, hb3]
     ·simp only [↓reduceIte, reduceCtorEq, nA, nS, nM, nE, nL, nT, nB, iT, iN, iE, and_self, SR, SV, SL, Bool.true_and, Bool.false_and, Bool.true_or, Bool.false_or, Bool.or_true, Bool.or_false, Bool.and_true, Bool.and_false, Bool.not_true, Bool.not_false, fld_93_0, sz_2, ag_2, fld_93_1, hb1, hb2, hb3]
    ·simp only [↓reduceIte, reduceCtorEq, nA, nS, nM, nE, nL, nT, nB, iT, iN, iE, and_self, SR, SV, SL, Bool.true_and, Bool.false_and, Bool.true_or, Bool.false_or, Bool.or_true, Bool.or_false, Bool.and_true, Bool.and_false, Bool.not_true, Bool.not_false, fld_93_0, sz_2, ag_2, hb1, hb2]
   ·simp only [↓reduceIte, reduceCtorEq, nA, nS, nM, nE, nL, nT, nB, iT, iN, iE, and_self, SR, SV, SL, Bool.true_and, Bool.false_and, Bool.true_or, Bool.false_or, Bool.or_true, Bool.or_false, Bool.and_true, Bool.and_false, Bool.not_true, Bool.not_false, fld_93_0, sz_2, ag_2, hb1]
  ·refine Mir.toK ?_
   refine Mir.ret fun e h => ?_
   cases h
   simp only [↓reduceIte, reduceCtorEq, nA, nE, nL, and_self, and_true, true_and, SL, Tryd.results39]

def r45_Valid (a0 : R45Table) : Option Int :=
  bindX (bindO (r45_out a0.Work.e0) fun (y115 : Bool) =>
      if y115 = true then
        some (.ret 1)
      else
        bindO (r45_out a0.Work.e1) fun (y117 : Bool) =>
        if y117 = true then
          some (.ret 1)
        else
          bindO (r45_out a0.Work.e2) fun (y119 : Bool) =>
          if y119 = true then
            some (.ret 1)
          else
            bindO (r45_out a0.Work.e3) fun (y121 : Bool) =>
            if y121 = true then
              some (.ret 1)
            else
              bindO (r45_out a0.Work.e4) fun (y123 : Bool) =>
              if y123 = true then
                some (.ret 1)
              else
                bindO (r45_out a0.Work.e5) fun (y125 : Bool) =>
                if y125 = true then
                  some (.ret 1)
                else
                  some (.go ())) fun (v113 : Unit) =>
  bindX (guardO (okIdx a0.Lengths) (
      rangeX (fun (i190 : Nat) (e192 : R45Length) (v191 : Unit) =>
        bindO (bindO (r45_entry e192) fun (y196 : Bool) =>
            if y196 = true then
              if (decide ((i190 : Int) > 0)) = true then
                bindO (gt a0.Lengths (IntKind.i64.wrap ((i190 : Int) - 1))) fun (e197 : R45Length) =>
                some (decide (e192.Number ≤ e197.Number))
              else
                some false
            else
              some true) fun (v198 : Bool) =>
        if v198 = true then
          some (.ret (.ret 1))
        else
          some (.go ())) (fun (v191 : Unit) => some (.go ())) a0.Lengths 0 ())) fun (v162 : Unit) =>
  some 0
set_option maxHeartbeats 8000000 in
theorem r45_Valid_spec {a0 : R45Table} {y : Int} (h : r45_Valid a0 = some y) : Spec gP 10 [.agg [.d (.int .i64 a0.Work.e0.X), .d (.int .i64 a0.Work.e0.Y), .d (.int .i64 a0.Work.e0.Z), .d (.int .i64 a0.Work.e1.X), .d (.int .i64 a0.Work.e1.Y), .d (.int .i64 a0.Work.e1.Z), .d (.int .i64 a0.Work.e2.X), .d (.int .i64 a0.Work.e2.Y), .d (.int .i64 a0.Work.e2.Z), .d (.int .i64 a0.Work.e3.X), .d (.int .i64 a0.Work.e3.Y), .d (.int .i64 a0.Work.e3.Z), .d (.int .i64 a0.Work.e4.X), .d (.int .i64 a0.Work.e4.Y), .d (.int .i64 a0.Work.e4.Z), .d (.int .i64 a0.Work.e5.X), .d (.int .i64 a0.Work.e5.Y), .d (.int .i64 a0.Work.e5.Z), .d (.list (List.map encR45Length a0.Lengths))]] (.d (.int .i64 y)) := by
  refine spec_mir Tryd.func10 rfl (by kernel_rfl) (by kernel_rfl) (fun y : Int => .d (.int .i64 y)) ?_ h
  unfold r45_Valid
  simp only [List.replicate, List.length, nS, nA, Tryd.ntmps10, SV]
  refine Mir.seqK ?_
  refine Mir.region fun e h => ?_
  simp only [↓reduceIte, reduceCtorEq, nA, nS, nM, nE, nL, nT, nB, iT, iN, iE, and_self, SR, SV, encR45Length]
  refine Mir.use (e := e) ?_ h
  refine Mir.seqK ?_
  refine Mir.seqK ?_
  refine Mir.region fun e h => ?_
  simp only [↓reduceIte, reduceCtorEq, nA, nS, nM, nE, nL, nT, nB, iT, iN, iE, and_self, SR, SV, encR45Length]
  refine Mir.use (e := e) ?_ h
  refine Mir.join (fun v113 : Unit => [U, .ptr 0 0, U, U, U, U, U, U, U, U, U, U, U, U, U, U, U, U, U, U, U, U, U, U, U, U, U, U, U, U, U, U, U, U, U, U, U, U, U, U, U, U, U, U, U, U, U, U]) (fun v113 : Unit => ⟨[[.d (.int .i64 a0.Work.e0.X), .d (.int .i64 a0.Work.e0.Y), .d (.int .i64 a0.Work.e0.Z), .d (.int .i64 a0.Work.e1.X), .d (.int .i64 a0.Work.e1.Y), .d (.int .i64 a0.Work.e1.Z), .d (.int .i64 a0.Work.e2.X), .d (.int .i64 a0.Work.e2.Y), .d (.int .i64 a0.Work.e2.Z), .d (.int .i64 a0.Work.e3.X), .d (.int .i64 a0.Work.e3.Y), .d (.int .i64 a0.Work.e3.Z), .d (.int .i64 a0.Work.e4.X), .d (.int .i64 a0.Work.e4.Y), .d (.int .i64 a0.Work.e4.Z), .d (.int .i64 a0.Work.e5.X), .d (.int .i64 a0.Work.e5.Y), .d (.int .i64 a0.Work.e5.Z), .d (.list (List.map encR45Length a0.Lengths))]], []⟩) (fun _ => rfl) ?_ ?_
  ·refine Mir.block ?_
   refine Mir.loopR 15 ?_
   refine Mir.seqK ?_
   refine Mir.seqK ?_
   refine Mir.region fun e h => ?_
   simp only [↓reduceIte, reduceCtorEq, nA, nS, nM, nE, nL, nT, nB, iT, iN, iE, and_self, SR, SV, encR45Length]
   refine Mir.use (e := e) ?_ h
   refine Mir.condT rfl ?_
   refine Mir.skip ?_
   refine Mir.toK ?_
   refine Mir.seqK ?_
   refine Mir.block ?_
   refine Mir.seqK ?_
   refine Mir.bind fun y115 hy33 => ?_
   refine Mir.region fun e h => ?_
   simp only [↓reduceIte, reduceCtorEq, nA, nS, nM, nE, nL, nT, nB, iT, iN, iE, and_self, SR, SV, fld_28_0, sz_25, und_25, sz_24, ag_24, encR45Length]
   refine SpecS.by (r45_out_spec hy33) (by simp only [↓reduceIte, reduceCtorEq, nA, nE, nL, and_self, and_true, true_and, SL, encR45Length]) ?_
   simp only [↓reduceIte, reduceCtorEq, nA, nS, nM, nE, nL, nT, nB, iT, iN, iE, and_self, SR, SV, encR45Length]
   refine Mir.use (e := e) ?_ h
   refine Mir.cond rfl (fun hb35 => ?_) (fun hb35 => ?_)
   ·refine Mir.seqK ?_
    refine Mir.region fun e h => ?_
    simp only [↓reduceIte, reduceCtorEq, nA, nS, nM, nE, nL, nT, nB, iT, iN, iE, and_self, SR, SV, encR45Length]
    refine Mir.use (e := e) ?_ h
    refine Mir.ret fun e h => ?_
    cases h
    simp only [↓reduceIte, reduceCtorEq, nA, nE, nL, and_self, and_true, true_and, SL, encR45Length, Tryd.results10]
   ·refine Mir.skip ?_
    refine Mir.toB ?_
    refine Mir.toK ?_
    refine Mir.region fun e h => ?_
    simp only [↓reduceIte, reduceCtorEq, nA, nS, nM, nE, nL, nT, nB, iT, iN, iE, and_self, SR, SV, (nr rfl : IntKind.i64.wrap (0 + 1) = 1), encR45Length]
    refine Mir.useN (e := e) ?_ h
    refine Mir.seqK ?_
    refine Mir.seqK ?_
    refine Mir.region fun e h => ?_
    simp only [↓reduceIte, reduceCtorEq, nA, nS, nM, nE, nL, nT, nB, iT, iN, iE, and_self, SR, SV, encR45Length]
    refine Mir.use (e := e) ?_ h
    refine Mir.condT rfl ?_
    refine Mir.skip ?_
    refine Mir.toK ?_
    refine Mir.seqK ?_
    refine Mir.block ?_
    refine Mir.seqK ?_
    refine Mir.bind fun y117 hy38 => ?_
    refine Mir.region fun e h => ?_
    simp only [↓reduceIte, reduceCtorEq, nA, nS, nM, nE, nL, nT, nB, iT, iN, iE, and_self, SR, SV, fld_28_0, sz_25, und_25, sz_24, ag_24, encR45Length]
    refine SpecS.by (r45_out_spec hy38) (by simp only [↓reduceIte, reduceCtorEq, nA, nE, nL, and_self, and_true, true_and, SL, encR45Length]) ?_
    simp only [↓reduceIte, reduceCtorEq, nA, nS, nM, nE, nL, nT, nB, iT, iN, iE, and_self, SR, SV, encR45Length]
    refine Mir.use (e := e) ?_ h
    refine Mir.cond rfl (fun hb40 => ?_) (fun hb40 => ?_)
    ·refine Mir.seqK ?_
     refine Mir.region fun e h => ?_
     simp only [↓reduceIte, reduceCtorEq, nA, nS, nM, nE, nL, nT, nB, iT, iN, iE, and_self, SR, SV, encR45Length]
     refine Mir.use (e := e) ?_ h
     refine Mir.ret fun e h => ?_
     cases h
     simp only [↓reduceIte, reduceCtorEq, nA, nE, nL, and_self, and_true, true_and, SL, encR45Length, Tryd.results10]
    ·refine Mir.skip ?_
     refine Mir.toB ?_
     refine Mir.toK ?_
     refine Mir.region fun e h => ?_
     simp only [↓reduceIte, reduceCtorEq, nA, nS, nM, nE, nL, nT, nB, iT, iN, iE, and_self, SR, SV, (nr rfl : IntKind.i64.wrap (1 + 1) = 2), encR45Length]
     refine Mir.useN (e := e) ?_ h
     refine Mir.seqK ?_
     refine Mir.seqK ?_
     refine Mir.region fun e h => ?_
     simp only [↓reduceIte, reduceCtorEq, nA, nS, nM, nE, nL, nT, nB, iT, iN, iE, and_self, SR, SV, encR45Length]
     refine Mir.use (e := e) ?_ h
     refine Mir.condT rfl ?_
     refine Mir.skip ?_
     refine Mir.toK ?_
     refine Mir.seqK ?_
     refine Mir.block ?_
     refine Mir.seqK ?_
     refine Mir.bind fun y119 hy43 => ?_
     refine Mir.region fun e h => ?_
     simp only [↓reduceIte, reduceCtorEq, nA, nS, nM, nE, nL, nT, nB, iT, iN, iE, and_self, SR, SV, fld_28_0, sz_25, und_25, sz_24, ag_24, encR45Length]
     refine SpecS.by (r45_out_spec hy43) (by simp only [↓reduceIte, reduceCtorEq, nA, nE, nL, and_self, and_true, true_and, SL, encR45Length]) ?_
     simp only [↓reduceIte, reduceCtorEq, nA, nS, nM, nE, nL, nT, nB, iT, iN, iE, and_self, SR, SV, encR45Length]
     refine Mir.use (e := e) ?_ h
     refine Mir.cond rfl (fun hb45 => ?_) (fun hb45 => ?_)
     ·refine Mir.seqK ?_
      refine Mir.region fun e h => ?_
      simp only [↓reduceIte, reduceCtorEq, nA, nS, nM, nE, nL, nT, nB, iT, iN, iE, and_self, SR, SV, encR45Length]
      refine Mir.use (e := e) ?_ h
      refine Mir.ret fun e h => ?_
      cases h
      simp only [↓reduceIte, reduceCtorEq, nA, nE, nL, and_self, and_true, true_and, SL, encR45Length, Tryd.results10]
     ·refine Mir.skip ?_
      refine Mir.toB ?_
      refine Mir.toK ?_
      refine Mir.region fun e h => ?_
      simp only [↓reduceIte, reduceCtorEq, nA, nS, nM, nE, nL, nT, nB, iT, iN, iE, and_self, SR, SV, (nr rfl : IntKind.i64.wrap (2 + 1) = 3), encR45Length]
      refine Mir.useN (e := e) ?_ h
      refine Mir.seqK ?_
      refine Mir.seqK ?_
      refine Mir.region fun e h => ?_
      simp only [↓reduceIte, reduceCtorEq, nA, nS, nM, nE, nL, nT, nB, iT, iN, iE, and_self, SR, SV, encR45Length]
      refine Mir.use (e := e) ?_ h
      refine Mir.condT rfl ?_
      refine Mir.skip ?_
      refine Mir.toK ?_
      refine Mir.seqK ?_
      refine Mir.block ?_
      refine Mir.seqK ?_
      refine Mir.bind fun y121 hy48 => ?_
      refine Mir.region fun e h => ?_
      simp only [↓reduceIte, reduceCtorEq, nA, nS, nM, nE, nL, nT, nB, iT, iN, iE, and_self, SR, SV, fld_28_0, sz_25, und_25, sz_24, ag_24, encR45Length]
      refine SpecS.by (r45_out_spec hy48) (by simp only [↓reduceIte, reduceCtorEq, nA, nE, nL, and_self, and_true, true_and, SL, encR45Length]) ?_
      simp only [↓reduceIte, reduceCtorEq, nA, nS, nM, nE, nL, nT, nB, iT, iN, iE, and_self, SR, SV, encR45Length]
      refine Mir.use (e := e) ?_ h
      refine Mir.cond rfl (fun hb50 => ?_) (fun hb50 => ?_)
      ·refine Mir.seqK ?_
       refine Mir.region fun e h => ?_
       simp only [↓reduceIte, reduceCtorEq, nA, nS, nM, nE, nL, nT, nB, iT, iN, iE, and_self, SR, SV, encR45Length]
       refine Mir.use (e := e) ?_ h
       refine Mir.ret fun e h => ?_
       cases h
       simp only [↓reduceIte, reduceCtorEq, nA, nE, nL, and_self, and_true, true_and, SL, encR45Length, Tryd.results10]
      ·refine Mir.skip ?_
       refine Mir.toB ?_
       refine Mir.toK ?_
       refine Mir.region fun e h => ?_
       simp only [↓reduceIte, reduceCtorEq, nA, nS, nM, nE, nL, nT, nB, iT, iN, iE, and_self, SR, SV, (nr rfl : IntKind.i64.wrap (3 + 1) = 4), encR45Length]
       refine Mir.useN (e := e) ?_ h
       refine Mir.seqK ?_
       refine Mir.seqK ?_
       refine Mir.region fun e h => ?_
       simp only [↓reduceIte, reduceCtorEq, nA, nS, nM, nE, nL, nT, nB, iT, iN, iE, and_self, SR, SV, encR45Length]
       refine Mir.use (e := e) ?_ h
       refine Mir.condT rfl ?_
       refine Mir.skip ?_
       refine Mir.toK ?_
       refine Mir.seqK ?_
       refine Mir.block ?_
       refine Mir.seqK ?_
       refine Mir.bind fun y123 hy53 => ?_
       refine Mir.region fun e h => ?_
       simp only [↓reduceIte, reduceCtorEq, nA, nS, nM, nE, nL, nT, nB, iT, iN, iE, and_self, SR, SV, fld_28_0, sz_25, und_25, sz_24, ag_24, encR45Length]
       refine SpecS.by (r45_out_spec hy53) (by simp only [↓reduceIte, reduceCtorEq, nA, nE, nL, and_self, and_true, true_and, SL, encR45Length]) ?_
       simp only [↓reduceIte, reduceCtorEq, nA, nS, nM, nE, nL, nT, nB, iT, iN, iE, and_self, SR, SV, encR45Length]
       refine Mir.use (e := e) ?_ h
       refine Mir.cond rfl (fun hb55 => ?_) (fun hb55 => ?_)
       ·refine Mir.seqK ?_
        refine Mir.region fun e h => ?_
        simp only [↓reduceIte, reduceCtorEq, nA, nS, nM, nE, nL, nT, nB, iT, iN, iE, and_self, SR, SV, encR45Length]
        refine Mir.use (e := e) ?_ h
        refine Mir.ret fun e h => ?_
        cases h
        simp only [↓reduceIte, reduceCtorEq, nA, nE, nL, and_self, and_true, true_and, SL, encR45Length, Tryd.results10]
       ·refine Mir.skip ?_
        refine Mir.toB ?_
        refine Mir.toK ?_
        refine Mir.region fun e h => ?_
        simp only [↓reduceIte, reduceCtorEq, nA, nS, nM, nE, nL, nT, nB, iT, iN, iE, and_self, SR, SV, (nr rfl : IntKind.i64.wrap (4 + 1) = 5), encR45Length]
        refine Mir.useN (e := e) ?_ h
        refine Mir.seqK ?_
        refine Mir.seqK ?_
        refine Mir.region fun e h => ?_
        simp only [↓reduceIte, reduceCtorEq, nA, nS, nM, nE, nL, nT, nB, iT, iN, iE, and_self, SR, SV, encR45Length]
        refine Mir.use (e := e) ?_ h
        refine Mir.condT rfl ?_
        refine Mir.skip ?_
        refine Mir.toK ?_
        refine Mir.seqK ?_
        refine Mir.block ?_
        refine Mir.seqK ?_
        refine Mir.bind fun y125 hy58 => ?_
        refine Mir.region fun e h => ?_
        simp only [↓reduceIte, reduceCtorEq, nA, nS, nM, nE, nL, nT, nB, iT, iN, iE, and_self, SR, SV, fld_28_0, sz_25, und_25, sz_24, ag_24, encR45Length]
        refine SpecS.by (r45_out_spec hy58) (by simp only [↓reduceIte, reduceCtorEq, nA, nE, nL, and_self, and_true, true_and, SL, encR45Length]) ?_
        simp only [↓reduceIte, reduceCtorEq, nA, nS, nM, nE, nL, nT, nB, iT, iN, iE, and_self, SR, SV, encR45Length]
        refine Mir.use (e := e) ?_ h
        refine Mir.cond rfl (fun hb60 => ?_) (fun hb60 => ?_)
        ·refine Mir.seqK ?_
         refine Mir.region fun e h => ?_
         simp only [↓reduceIte, reduceCtorEq, nA, nS, nM, nE, nL, nT, nB, iT, iN, iE, and_self, SR, SV, encR45Length]
         refine Mir.use (e := e) ?_ h
         refine Mir.ret fun e h => ?_
         cases h
         simp only [↓reduceIte, reduceCtorEq, nA, nE, nL, and_self, and_true, true_and, SL, encR45Length, Tryd.results10]
        ·refine Mir.skip ?_
         refine Mir.toB ?_
         refine Mir.toK ?_
         refine Mir.region fun e h => ?_
         simp only [↓reduceIte, reduceCtorEq, nA, nS, nM, nE, nL, nT, nB, iT, iN, iE, and_self, SR, SV, (nr rfl : IntKind.i64.wrap (5 + 1) = 6), encR45Length]
         refine Mir.useN (e := e) ?_ h
         refine Mir.seqK ?_
         refine Mir.seqK ?_
         refine Mir.region fun e h => ?_
         simp only [↓reduceIte, reduceCtorEq, nA, nS, nM, nE, nL, nT, nB, iT, iN, iE, and_self, SR, SV, encR45Length]
         refine Mir.use (e := e) ?_ h
         refine Mir.condF rfl ?_
         refine Mir.exit fun e h => ?_
         cases h
         simp only [↓reduceIte, reduceCtorEq, nA, nE, nL, and_self, and_true, true_and, SL, encR45Length, Tryd.results10]
  ·intro v113
   refine Mir.toK ?_
   refine Mir.seqK ?_
   refine Mir.seqK ?_
   refine Mir.region fun e h => ?_
   simp only [↓reduceIte, reduceCtorEq, nA, nS, nM, nE, nL, nT, nB, iT, iN, iE, and_self, SR, SV, encR45Length]
   refine Mir.use (e := e) ?_ h
   refine Mir.join (fun v162 : Unit => [U, U, U, U, U, U, U, U, U, U, U, U, U, U, U, U, U, U, U, U, U, U, U, U, U, U, U, U, U, U, U, U, U, U, U, U, U, U, U, U, U, U, U, U, U, U, U, U]) (fun v162 : Unit => ⟨[[.d (.int .i64 a0.Work.e0.X), .d (.int .i64 a0.Work.e0.Y), .d (.int .i64 a0.Work.e0.Z), .d (.int .i64 a0.Work.e1.X), .d (.int .i64 a0.Work.e1.Y), .d (.int .i64 a0.Work.e1.Z), .d (.int .i64 a0.Work.e2.X), .d (.int .i64 a0.Work.e2.Y), .d (.int .i64 a0.Work.e2.Z), .d (.int .i64 a0.Work.e3.X), .d (.int .i64 a0.Work.e3.Y), .d (.int .i64 a0.Work.e3.Z), .d (.int .i64 a0.Work.e4.X), .d (.int .i64 a0.Work.e4.Y), .d (.int .i64 a0.Work.e4.Z), .d (.int .i64 a0.Work.e5.X), .d (.int .i64 a0.Work.e5.Y), .d (.int .i64 a0.Work.e5.Z), .d (.list (List.map encR45Length a0.Lengths))]], []⟩) (fun _ => rfl) ?_ ?_
   ·refine Mir.block ?_
    refine Mir.guard fun qg159 => ?_
    refine Mir.range (fun (i190 : Nat) (v191 : Unit) => [U, .ptr 0 0, U, U, .d (.int .i64 (i190 : Int)), U, U, U, U, U, U, U, U, U, U, U, U, U, U, U, U, U, U, U, U, U, U, U, U, U, U, U, U, U, U, U, U, U, U, U, U, U, U, U, U, U, U, U]) (fun (i190 : Nat) (v191 : Unit) => ⟨[[.d (.int .i64 a0.Work.e0.X), .d (.int .i64 a0.Work.e0.Y), .d (.int .i64 a0.Work.e0.Z), .d (.int .i64 a0.Work.e1.X), .d (.int .i64 a0.Work.e1.Y), .d (.int .i64 a0.Work.e1.Z), .d (.int .i64 a0.Work.e2.X), .d (.int .i64 a0.Work.e2.Y), .d (.int .i64 a0.Work.e2.Z), .d (.int .i64 a0.Work.e3.X), .d (.int .i64 a0.Work.e3.Y), .d (.int .i64 a0.Work.e3.Z), .d (.int .i64 a0.Work.e4.X), .d (.int .i64 a0.Work.e4.Y), .d (.int .i64 a0.Work.e4.Z), .d (.int .i64 a0.Work.e5.X), .d (.int .i64 a0.Work.e5.Y), .d (.int .i64 a0.Work.e5.Z), .d (.list (List.map encR45Length a0.Lengths))]], []⟩) qg159 (fun _ _ => rfl) (by simp only [↓reduceIte, reduceCtorEq, nA, nE, nL, and_self, and_true, true_and, SL, encR45Length, (nr rfl : ((0 : Nat) : Int) = 0)]) (by simp only [↓reduceIte, reduceCtorEq, nA, nE, nL, and_self, and_true, true_and, SL, encR45Length, (nr rfl : ((0 : Nat) : Int) = 0)]) ?_ ?_
    ·intro i190 e192 v191 qr157
     refine Mir.seqK ?_
     refine Mir.seqK ?_
     refine Mir.region fun e h => ?_
     simp only [↓reduceIte, reduceCtorEq, nA, nS, nM, nE, nL, nT, nB, iT, iN, iE, and_self, SR, SV, fld_28_1, sz_26, ag_26, und_26, qr157, encR45Length]
     refine Mir.use (e := e) ?_ h
     refine Mir.condT rfl ?_
     refine Mir.skip ?_
     refine Mir.toK ?_
     refine Mir.seqK ?_
     refine Mir.block ?_
     refine Mir.seqK ?_
     refine Mir.joinO (fun v198 : Bool => [U, .ptr 0 0, U, U, .d (.int .i64 (i190 : Int)), U, U, U, U, U, U, U, U, U, U, U, U, U, U, U, U, U, U, U, U, U, U, U, U, U, U, U, U, U, U, U, U, U, U, U, U, U, U, U, U, U, U, .d (.bool v198)]) (fun v198 : Bool => ⟨[[.d (.int .i64 a0.Work.e0.X), .d (.int .i64 a0.Work.e0.Y), .d (.int .i64 a0.Work.e0.Z), .d (.int .i64 a0.Work.e1.X), .d (.int .i64 a0.Work.e1.Y), .d (.int .i64 a0.Work.e1.Z), .d (.int .i64 a0.Work.e2.X), .d (.int .i64 a0.Work.e2.Y), .d (.int .i64 a0.Work.e2.Z), .d (.int .i64 a0.Work.e3.X), .d (.int .i64 a0.Work.e3.Y), .d (.int .i64 a0.Work.e3.Z), .d (.int .i64 a0.Work.e4.X), .d (.int .i64 a0.Work.e4.Y), .d (.int .i64 a0.Work.e4.Z), .d (.int .i64 a0.Work.e5.X), .d (.int .i64 a0.Work.e5.Y), .d (.int .i64 a0.Work.e5.Z), .d (.list (List.map encR45Length a0.Lengths))]], []⟩) (fun _ => rfl) ?_ ?_
     ·refine Mir.bind fun y196 hy165 => ?_
      refine Mir.ite (fun hb166 => ?_) (fun hb166 => ?_)
      ·refine Mir.ite (fun hb167 => ?_) (fun hb167 => ?_)
       ·refine Mir.bind fun e197 q168 => ?_
        replace q168 := gt_ok q168
        refine Mir.regionD [] (by kernel_rfl) fun e h => ?_
        simp only [↓reduceIte, reduceCtorEq, nA, nS, nM, nE, nL, nT, nB, iT, iN, iE, and_self, SR, SV, sepL_nil, sepL_cons, sepV_ne, sepV_d, sepV_i, true_and, Bool.and_self, fld_28_1, sz_26, ag_26, und_26, sz_93, qr157, Int.toNat_natCast, ag_93, encR45Length, hb166, hb167]
        refine Spec.by (r45_entry_spec hy165) (by simp only [↓reduceIte, reduceCtorEq, nA, nE, nL, and_self, and_true, true_and, SL, encR45Length, hb166, hb167]) ?_
        simp only [↓reduceIte, reduceCtorEq, nA, nS, nM, nE, nL, nT, nB, iT, iN, iE, and_self, SR, SV, sepL_nil, sepL_cons, sepV_ne, sepV_d, sepV_i, true_and, Bool.and_self, fld_28_1, sz_26, ag_26, und_26, sz_93, qr157, Int.toNat_natCast, fld_93_0, sz_2, ag_2, q168, encR45Length, hb166, hb167]
        cases h
        simp only [↓reduceIte, reduceCtorEq, nA, nE, nL, and_self, and_true, true_and, SL, encR45Length, hb166, hb167]
       ·refine Mir.regionD [] (by kernel_rfl) fun e h => ?_
        simp only [↓reduceIte, reduceCtorEq, nA, nS, nM, nE, nL, nT, nB, iT, iN, iE, and_self, SR, SV, sepL_nil, sepL_cons, sepV_ne, sepV_d, sepV_i, true_and, Bool.and_self, fld_28_1, sz_26, ag_26, und_26, sz_93, qr157, Int.toNat_natCast, ag_93, encR45Length, hb166, hb167]
        refine Spec.by (r45_entry_spec hy165) (by simp only [↓reduceIte, reduceCtorEq, nA, nE, nL, and_self, and_true, true_and, SL, encR45Length, hb166, hb167]) ?_
        simp only [↓reduceIte, reduceCtorEq, nA, nS, nM, nE, nL, nT, nB, iT, iN, iE, and_self, SR, SV, sepL_nil, sepL_cons, sepV_ne, sepV_d, sepV_i, true_and, Bool.and_self, encR45Length, hb166, hb167]
        cases h
        simp only [↓reduceIte, reduceCtorEq, nA, nE, nL, and_self, and_true, true_and, SL, encR45Length, hb166, hb167]
      ·refine Mir.regionD [] (by kernel_rfl) fun e h => ?_
       simp only [↓reduceIte, reduceCtorEq, nA, nS, nM, nE, nL, nT, nB, iT, iN, iE, and_self, SR, SV, sepL_nil, sepL_cons, sepV_ne, sepV_d, sepV_i, true_and, Bool.and_self, fld_28_1, sz_26, ag_26, und_26, sz_93, qr157, Int.toNat_natCast, ag_93, encR45Length, hb166]
       refine Spec.by (r45_entry_spec hy165) (by simp only [↓reduceIte, reduceCtorEq, nA, nE, nL, and_self, and_true, true_and, SL, encR45Length, hb166]) ?_
       simp only [↓reduceIte, reduceCtorEq, nA, nS, nM, nE, nL, nT, nB, iT, iN, iE, and_self, SR, SV, sepL_nil, sepL_cons, sepV_ne, sepV_d, sepV_i, true_and, Bool.and_self, encR45Length, hb166]
       cases h
       simp only [↓reduceIte, reduceCtorEq, nA, nE, nL, and_self, and_true, true_and, SL, encR45Length, hb166]
     ·intro v198
      refine Mir.toK ?_
      refine Mir.cond rfl (fun hb170 => ?_) (fun hb170 => ?_)
      ·refine Mir.seqK ?_
       refine Mir.region fun e h => ?_
       simp only [↓reduceIte, reduceCtorEq, nA, nS, nM, nE, nL, nT, nB, iT, iN, iE, and_self, SR, SV, encR45Length]
       refine Mir.use (e := e) ?_ h
       refine Mir.ret fun e h => ?_
       cases h
       simp only [↓reduceIte, reduceCtorEq, nA, nE, nL, and_self, and_true, true_and, SL, encR45Length, Tryd.results10]
      ·refine Mir.skip ?_
       refine Mir.toB ?_
       refine Mir.toK ?_
       refine Mir.region fun e h => ?_
       simp only [↓reduceIte, reduceCtorEq, nA, nS, nM, nE, nL, nT, nB, iT, iN, iE, and_self, SR, SV, encR45Length]
       cases h
       simp only [↓reduceIte, reduceCtorEq, nA, nE, nL, and_self, and_true, true_and, SL, encR45Length, Tryd.results10, qr157]
    ·intro v191 qd158
     refine Mir.seqK ?_
     refine Mir.seqK ?_
     refine Mir.region fun e h => ?_
     simp only [↓reduceIte, reduceCtorEq, nA, nS, nM, nE, nL, nT, nB, iT, iN, iE, and_self, SR, SV, fld_28_1, sz_26, ag_26, und_26, qd158, encR45Length]
     refine Mir.use (e := e) ?_ h
     refine Mir.condF rfl ?_
     refine Mir.exit fun e h => ?_
     cases h
     simp only [↓reduceIte, reduceCtorEq, nA, nE, nL, and_self, and_true, true_and, SL, encR45Length, Tryd.results10]
   ·intro v162
    refine Mir.toK ?_
    refine Mir.seqK ?_
    refine Mir.region fun e h => ?_
    simp only [↓reduceIte, reduceCtorEq, nA, nS, nM, nE, nL, nT, nB, iT, iN, iE, and_self, SR, SV, encR45Length]
    refine Mir.use (e := e) ?_ h
    refine Mir.ret fun e h => ?_
    cases h
    simp only [↓reduceIte, reduceCtorEq, nA, nE, nL, and_self, and_true, true_and, SL, encR45Length, Tryd.results10]

def r41_Codes (a0 : ApiBlock) (a1 : Int) : Option (List Int) :=
  bindO (guardO (okIdx a0.Words) (
      rangeX (fun (i157 : Nat) (e159 : ApiWord) (v158 : (List Int)) =>
        bindO (if (e159.Letter == a1) = true then
              guardO (okLen (v158.length + 1)) (
              some (v158 ++ [e159.Value]))
            else
              some v158) fun (v160 : (List Int)) =>
        some (.go v160)) (fun (v158 : (List Int)) => some v158) a0.Words 0 [])) fun (v142 : (List Int)) =>
  some v142
theorem r41_Codes_spec {a0 : ApiBlock} {a1 : Int} {y : (List Int)} (h : r41_Codes a0 a1 = some y) : Spec gP 56 [.agg [.d (.bool a0.Skip), .d (.list (List.map encApiWord a0.Words)), .d (.str a0.Comment)], .d (.int .u8 a1)] (.d (.list (List.map (eInt .i64) y))) := by
  refine spec_mir Tryd.func56 rfl (by kernel_rfl) (by kernel_rfl) (fun y : (List Int) => .d (.list (List.map (eInt .i64) y))) ?_ h
  unfold r41_Codes
  simp only [List.replicate, List.length, nS, nA, Tryd.ntmps56, SV]
  refine Mir.seqK ?_
  refine Mir.region fun e h => ?_
  simp only [↓reduceIte, reduceCtorEq, nA, nS, nM, nE, nL, nT, nB, iT, iN, iE, and_self, SR, SV, eInt, encApiWord]
  refine Mir.use (e := e) ?_ h
  refine Mir.seqK ?_
  refine Mir.region fun e h => ?_
  simp only [↓reduceIte, reduceCtorEq, nA, nS, nM, nE, nL, nT, nB, iT, iN, iE, and_self, SR, SV, eInt, encApiWord]
  refine Mir.use (e := e) ?_ h
  refine Mir.seqK ?_
  refine Mir.seqK ?_
  refine Mir.region fun e h => ?_
  simp only [↓reduceIte, reduceCtorEq, nA, nS, nM, nE, nL, nT, nB, iT, iN, iE, and_self, SR, SV, eInt, encApiWord]
  refine Mir.use (e := e) ?_ h
  refine Mir.gh [.slot 5 2] rfl ?_
  refine Mir.joinO (fun v142 : (List Int) => [U, U, U, U, U, .own 0 (List.map (eInt .i64) v142), U, U, U, U, U, U, U, U, U, U, U, U, U, U, U, U, U, U, U, U, U, U, U, U, U, U]) (fun v142 : (List Int) => ⟨[[.d (.bool a0.Skip), .d (.list (List.map encApiWord a0.Words)), .d (.str a0.Comment)]], [(2, v142.length)]⟩) (fun _ => rfl) ?_ ?_
  ·refine Mir.block ?_
   refine Mir.guard fun qg91 => ?_
   refine Mir.range (fun (i157 : Nat) (v158 : (List Int)) => [U, .d (.int .u8 a1), .ptr 0 0, U, U, .own 0 (List.map (eInt .i64) v158), .d (.int .i64 (i157 : Int)), U, U, U, U, U, U, U, U, U, U, U, U, U, U, U, U, U, U, U, U, U, U, U, U, U]) (fun (i157 : Nat) (v158 : (List Int)) => ⟨[[.d (.bool a0.Skip), .d (.list (List.map encApiWord a0.Words)), .d (.str a0.Comment)]], [(2, v158.length)]⟩) qg91 (fun _ _ => rfl) (by simp only [↓reduceIte, reduceCtorEq, nA, nE, nL, and_self, and_true, true_and, SL, eInt, encApiWord, (nr rfl : ((0 : Nat) : Int) = 0)]) (by simp only [↓reduceIte, reduceCtorEq, nA, nE, nL, and_self, and_true, true_and, SL, eInt, encApiWord, (nr rfl : ((0 : Nat) : Int) = 0)]) ?_ ?_
   ·intro i157 e159 v158 qr89
    refine Mir.seqK ?_
    refine Mir.seqK ?_
    refine Mir.region fun e h => ?_
    simp only [↓reduceIte, reduceCtorEq, nA, nS, nM, nE, nL, nT, nB, iT, iN, iE, and_self, SR, SV, fld_42_1, sz_40, ag_40, und_40, qr89, eInt, encApiWord]
    refine Mir.use (e := e) ?_ h
    refine Mir.condT rfl ?_
    refine Mir.skip ?_
    refine Mir.toK ?_
    refine Mir.seqK ?_
    refine Mir.joinO (fun v160 : (List Int) => [U, .d (.int .u8 a1), .ptr 0 0, U, U, .own 0 (List.map (eInt .i64) v160), .d (.int .i64 (i157 : Int)), U, U, U, U, U, U, U, U, U, U, U, U, U, U, U, U, U, U, U, U, U, U, U, U, U]) (fun v160 : (List Int) => ⟨[[.d (.bool a0.Skip), .d (.list (List.map encApiWord a0.Words)), .d (.str a0.Comment)]], [(2, v160.length)]⟩) (fun _ => rfl) ?_ ?_
    ·refine Mir.block ?_
     refine Mir.seqK ?_
     refine Mir.region fun e h => ?_
     simp only [↓reduceIte, reduceCtorEq, nA, nS, nM, nE, nL, nT, nB, iT, iN, iE, and_self, SR, SV, fld_42_1, sz_40, ag_40, und_40, sz_38, qr89, Int.toNat_natCast, fld_38_0, sz_5, ag_5, eInt, encApiWord]
     refine Mir.use (e := e) ?_ h
     refine Mir.cond rfl (fun hb94 => ?_) (fun hb94 => ?_)
     ·refine Mir.guard fun q95 => ?_
      refine Mir.region fun e h => ?_
      simp only [↓reduceIte, reduceCtorEq, nA, nS, nM, nE, nL, nT, nB, iT, iN, iE, and_self, SR, SV, fld_42_1, sz_40, ag_40, und_40, sz_38, qr89, Int.toNat_natCast, fld_38_1, sz_2, ag_2, und_98, zero_2, (nr rfl : okLen 1 = true), app_98, al_eInt, q95, eInt, encApiWord]
      cases h
      simp only [↓reduceIte, reduceCtorEq, nA, nE, nL, and_self, and_true, true_and, SL, eInt, encApiWord, Tryd.results56]
     ·refine Mir.skip fun e h => ?_
      cases h
      simp only [↓reduceIte, reduceCtorEq, nA, nE, nL, and_self, and_true, true_and, SL, eInt, encApiWord, Tryd.results56]
    ·intro v160
     refine Mir.toK ?_
     refine Mir.region fun e h => ?_
     simp only [↓reduceIte, reduceCtorEq, nA, nS, nM, nE, nL, nT, nB, iT, iN, iE, and_self, SR, SV, eInt, encApiWord]
     cases h
     simp only [↓reduceIte, reduceCtorEq, nA, nE, nL, and_self, and_true, true_and, SL, eInt, encApiWord, Tryd.results56, qr89]
   ·intro v158 qd90
    refine Mir.seqK ?_
    refine Mir.seqK ?_
    refine Mir.region fun e h => ?_
    simp only [↓reduceIte, reduceCtorEq, nA, nS, nM, nE, nL, nT, nB, iT, iN, iE, and_self, SR, SV, fld_42_1, sz_40, ag_40, und_40, qd90, eInt, encApiWord]
    refine Mir.use (e := e) ?_ h
    refine Mir.condF rfl ?_
    refine Mir.exit fun e h => ?_
    cases h
    simp only [↓reduceIte, reduceCtorEq, nA, nE, nL, and_self, and_true, true_and, SL, eInt, encApiWord, Tryd.results56]
  ·intro v142
   refine Mir.toK ?_
   refine Mir.seqK ?_
   refine Mir.region fun e h => ?_
   simp only [↓reduceIte, reduceCtorEq, nA, nS, nM, nE, nL, nT, nB, iT, iN, iE, and_self, SR, SV, eInt, encApiWord]
   refine Mir.use (e := e) ?_ h
   refine Mir.ret fun e h => ?_
   cases h
   simp only [↓reduceIte, reduceCtorEq, nA, nE, nL, and_self, and_true, true_and, SL, eInt, encApiWord, Tryd.results56]

def r41_Find (a0 : ApiBlock) (a1 : Int) : Option (Int × Bool) :=
  bindO (r41_Codes a0 a1) fun (y101 : (List Int)) =>
  if ((y101.length : Int) == 0) = true then
    some (0, false)
  else
    bindO (gt y101 0) fun (e102 : Int) =>
    some (e102, true)
theorem r41_Find_spec {a0 : ApiBlock} {a1 : Int} {y : Int × Bool} (h : r41_Find a0 a1 = some y) : Spec gP 23 [.agg [.d (.bool a0.Skip), .d (.list (List.map encApiWord a0.Words)), .d (.str a0.Comment)], .d (.int .u8 a1)] (.tuple [.d (.int .i64 y.1), .d (.bool y.2)]) := by
  refine spec_mir Tryd.func23 rfl (by kernel_rfl) (by kernel_rfl) (fun y : Int × Bool => .tuple [.d (.int .i64 y.1), .d (.bool y.2)]) ?_ h
  unfold r41_Find
  simp only [List.replicate, List.length, nS, nA, Tryd.ntmps23, SV]
  refine Mir.seqK ?_
  refine Mir.region fun e h => ?_
  simp only [↓reduceIte, reduceCtorEq, nA, nS, nM, nE, nL, nT, nB, iT, iN, iE, and_self, SR, SV, eInt, encApiWord]
  refine Mir.use (e := e) ?_ h
  refine Mir.seqK ?_
  refine Mir.bind fun y101 hy1 => ?_
  refine Mir.region fun e h => ?_
  simp only [↓reduceIte, reduceCtorEq, nA, nS, nM, nE, nL, nT, nB, iT, iN, iE, and_self, SR, SV, ag_42, sz_42, eInt, encApiWord]
  refine SpecS.by (r41_Codes_spec hy1) (by simp only [↓reduceIte, reduceCtorEq, nA, nE, nL, and_self, and_true, true_and, SL, eInt, encApiWord]) ?_
  simp only [↓reduceIte, reduceCtorEq, nA, nS, nM, nE, nL, nT, nB, iT, iN, iE, and_self, SR, SV, eInt, encApiWord]
  refine Mir.use (e := e) ?_ h
  refine Mir.seqK ?_
  refine Mir.seqK ?_
  refine Mir.region fun e h => ?_
  simp only [↓reduceIte, reduceCtorEq, nA, nS, nM, nE, nL, nT, nB, iT, iN, iE, and_self, SR, SV, und_98, eInt, encApiWord]
  refine Mir.use (e := e) ?_ h
  refine Mir.cond rfl (fun hb3 => ?_) (fun hb3 => ?_)
  ·refine Mir.seqK ?_
   refine Mir.region fun e h => ?_
   simp only [↓reduceIte, reduceCtorEq, nA, nS, nM, nE, nL, nT, nB, iT, iN, iE, and_self, SR, SV, encApiWord]
   refine Mir.use (e := e) ?_ h
   refine Mir.ret fun e h => ?_
   cases h
   simp only [↓reduceIte, reduceCtorEq, nA, nE, nL, and_self, and_true, true_and, SL, encApiWord, Tryd.results23]
  ·refine Mir.skip ?_
   refine Mir.toK ?_
   refine Mir.seqK ?_
   refine Mir.bind fun e102 q4 => ?_
   replace q4 := gt_ok q4
   simp only [Int.reduceToNat, Int.reduceLT, Nat.sub_zero, dp0] at q4
   refine Mir.region fun e h => ?_
   simp only [↓reduceIte, reduceCtorEq, nA, nS, nM, nE, nL, nT, nB, iT, iN, iE, and_self, SR, SV, und_98, sz_2, q4, ag_2, eInt, encApiWord]
   refine Mir.use (e := e) ?_ h
   refine Mir.ret fun e h => ?_
   cases h
   simp only [↓reduceIte, reduceCtorEq, nA, nE, nL, and_self, and_true, true_and, SL, eInt, encApiWord, Tryd.results23]

def inp_Connected (a0 : ApiPos) (a1 : (List ApiMotion)) : Option Bool :=
  bindX (guardO (okIdx a1) (
      rangeX (fun (i127 : Nat) (e129 : ApiMotion) (v128 : ApiPos) =>
        if (!((e129.From.X == v128.X) && ((e129.From.Y == v128.Y) && (e129.From.Z == v128.Z)))) = true then
          some (.ret (.ret false))
        else
          some (.go e129.To)) (fun (v128 : ApiPos) => some (.go v128)) a1 0 a0)) fun (v115 : ApiPos) =>
  some true
theorem inp_Connected_spec {a0 : ApiPos} {a1 : (List ApiMotion)} {y : Bool} (h : inp_Connected a0 a1 = some y) : Spec gP 24 [.agg [.d (.int .i64 a0.X), .d (.int .i64 a0.Y), .d (.int .i64 a0.Z)], .d (.list (List.map encApiMotion a1))] (.d (.bool y)) := by
  refine spec_mir Tryd.func24 rfl (by kernel_rfl) (by kernel_rfl) (fun y : Bool => .d (.bool y)) ?_ h
  unfold inp_Connected
  simp only [List.replicate, List.length, nS, nA, Tryd.ntmps24, SV]
  refine Mir.seqK ?_
  refine Mir.region fun e h => ?_
  simp only [↓reduceIte, reduceCtorEq, nA, nS, nM, nE, nL, nT, nB, iT, iN, iE, and_self, SR, SV, encApiMotion]
  refine Mir.use (e := e) ?_ h
  refine Mir.seqK ?_
  refine Mir.seqK ?_
  refine Mir.region fun e h => ?_
  simp only [↓reduceIte, reduceCtorEq, nA, nS, nM, nE, nL, nT, nB, iT, iN, iE, and_self, SR, SV, und_47, encApiMotion]
  refine Mir.use (e := e) ?_ h
  refine Mir.join (fun v115 : ApiPos => [U, U, U, U, U, U, U, U, U, U, U, U, U, U, U, U, U, U, U, U]) (fun v115 : ApiPos => ⟨[[.d (.int .i64 v115.X), .d (.int .i64 v115.Y), .d (.int .i64 v115.Z)]], []⟩) (fun _ => rfl) ?_ ?_
  ·refine Mir.block ?_
   refine Mir.guard fun qg58 => ?_
   refine Mir.range (fun (i127 : Nat) (v128 : ApiPos) => [U, U, .ptr 0 0, U, U, U, U, .d (.list (List.map encApiMotion a1)), .d (.int .i64 (a1.length : Int)), .d (.int .i64 (i127 : Int)), U, U, U, U, U, U, U, U, U, U]) (fun (i127 : Nat) (v128 : ApiPos) => ⟨[[.d (.int .i64 v128.X), .d (.int .i64 v128.Y), .d (.int .i64 v128.Z)]], []⟩) qg58 (fun _ _ => rfl) (by simp only [↓reduceIte, reduceCtorEq, nA, nE, nL, and_self, and_true, true_and, SL, encApiMotion, (nr rfl : ((0 : Nat) : Int) = 0)]) (by simp only [↓reduceIte, reduceCtorEq, nA, nE, nL, and_self, and_true, true_and, SL, encApiMotion, (nr rfl : ((0 : Nat) : Int) = 0)]) ?_ ?_
   ·intro i127 e129 v128 qr56
    refine Mir.seqK ?_
    refine Mir.region fun e h => ?_
    simp only [↓reduceIte, reduceCtorEq, nA, nS, nM, nE, nL, nT, nB, iT, iN, iE, and_self, SR, SV, qr56, encApiMotion]
    refine Mir.use (e := e) ?_ h
    refine Mir.seqK ?_
    refine Mir.condT rfl ?_
    refine Mir.skip ?_
    refine Mir.toK ?_
    refine Mir.seqK ?_
    refine Mir.block ?_
    refine Mir.seqK ?_
    refine Mir.region fun e h => ?_
    simp only [↓reduceIte, reduceCtorEq, nA, nS, nM, nE, nL, nT, nB, iT, iN, iE, and_self, SR, SV, und_47, sz_62, qr56, Int.toNat_natCast, ag_62, zero_62, encApiMotion]
    refine Mir.use (e := e) ?_ h
    refine Mir.seqK ?_
    refine Mir.seqK ?_
    refine Mir.region fun e h => ?_
    simp only [↓reduceIte, reduceCtorEq, nA, nS, nM, nE, nL, nT, nB, iT, iN, iE, and_self, SR, SV, fld_62_0, sz_24, ag_24, gE_24, encApiMotion]
    refine Mir.use (e := e) ?_ h
    refine Mir.cond rfl (fun hb62 => ?_) (fun hb62 => ?_)
    ·refine Mir.seqK ?_
     refine Mir.region fun e h => ?_
     simp only [↓reduceIte, reduceCtorEq, nA, nS, nM, nE, nL, nT, nB, iT, iN, iE, and_self, SR, SV, encApiMotion]
     refine Mir.use (e := e) ?_ h
     refine Mir.ret fun e h => ?_
     cases h
     simp only [↓reduceIte, reduceCtorEq, nA, nE, nL, and_self, and_true, true_and, SL, encApiMotion, Tryd.results24]
    ·refine Mir.skip ?_
     refine Mir.toK ?_
     refine Mir.region fun e h => ?_
     simp only [↓reduceIte, reduceCtorEq, nA, nS, nM, nE, nL, nT, nB, iT, iN, iE, and_self, SR, SV, fld_62_1, sz_24, ag_24, encApiMotion]
     refine Mir.use (e := e) ?_ h
     refine Mir.region fun e h => ?_
     simp only [↓reduceIte, reduceCtorEq, nA, nS, nM, nE, nL, nT, nB, iT, iN, iE, and_self, SR, SV, encApiMotion]
     cases h
     simp only [↓reduceIte, reduceCtorEq, nA, nE, nL, and_self, and_true, true_and, SL, encApiMotion, Tryd.results24, qr56]
   ·intro v128 qd57
    refine Mir.seqK ?_
    refine Mir.region fun e h => ?_
    simp only [↓reduceIte, reduceCtorEq, nA, nS, nM, nE, nL, nT, nB, iT, iN, iE, and_self, SR, SV, qd57, encApiMotion]
    refine Mir.use (e := e) ?_ h
    refine Mir.seqK ?_
    refine Mir.condF rfl ?_
    refine Mir.exit fun e h => ?_
    cases h
    simp only [↓reduceIte, reduceCtorEq, nA, nE, nL, and_self, and_true, true_and, SL, encApiMotion, Tryd.results24]
  ·intro v115
   refine Mir.toK ?_
   refine Mir.seqK ?_
   refine Mir.region fun e h => ?_
   simp only [↓reduceIte, reduceCtorEq, nA, nS, nM, nE, nL, nT, nB, iT, iN, iE, and_self, SR, SV, encApiMotion]
   refine Mir.use (e := e) ?_ h
   refine Mir.ret fun e h => ?_
   cases h
   simp only [↓reduceIte, reduceCtorEq, nA, nE, nL, and_self, and_true, true_and, SL, encApiMotion, Tryd.results24]

def l47_plus (a0 : ApiPos) (a1 : ApiPos) : Option ApiPos :=
  some (ApiPos.mk (IntKind.i64.wrap (a0.X + a1.X)) (IntKind.i64.wrap (a0.Y + a1.Y)) (IntKind.i64.wrap (a0.Z + a1.Z)))
theorem l47_plus_spec {a0 : ApiPos} {a1 : ApiPos} {y : ApiPos} (h : l47_plus a0 a1 = some y) : Spec gP 14 [.agg [.d (.int .i64 a0.X), .d (.int .i64 a0.Y), .d (.int .i64 a0.Z)], .agg [.d (.int .i64 a1.X), .d (.int .i64 a1.Y), .d (.int .i64 a1.Z)]] (.agg [.d (.int .i64 y.X), .d (.int .i64 y.Y), .d (.int .i64 y.Z)]) := by
  refine spec_mir Tryd.func14 rfl (by kernel_rfl) (by kernel_rfl) (fun y : ApiPos => .agg [.d (.int .i64 y.X), .d (.int .i64 y.Y), .d (.int .i64 y.Z)]) ?_ h
  unfold l47_plus
  simp only [List.replicate, List.length, nS, nA, Tryd.ntmps14, SV]
  refine Mir.seqK ?_
  refine Mir.region fun e h => ?_
  simp only [↓reduceIte, reduceCtorEq, nA, nS, nM, nE, nL, nT, nB, iT, iN, iE, and_self, SR, SV, zero_24]
  refine Mir.use (e := e) ?_ h
  refine Mir.seqK ?_
  refine Mir.region fun e h => ?_
  simp only [↓reduceIte, reduceCtorEq, nA, nS, nM, nE, nL, nT, nB, iT, iN, iE, and_self, SR, SV, fld_24_0, sz_2, ag_2, fld_24_1, fld_24_2, zero_24, pl_24, sz_24]
  refine Mir.use (e := e) ?_ h
  refine Mir.ret fun e h => ?_
  cases h
  simp only [↓reduceIte, reduceCtorEq, nA, nE, nL, and_self, and_true, true_and, SL, Tryd.results14, ag_24, sz_24]

end Go.Proofs.YtlcfgpjgjdjpoaaDoor
