/-
  Mirrors of functions, written by wip/mir.py.
-/
import Derived.Test.YtijihbegfmkceaaDoorMBa
namespace Go.Proofs.YtijihbegfmkceaaDoor
open Go.RowKit
open Nat renaming reduceAdd → nA, reduceSub → nS, reduceMul → nM, reduceEqDiff → nE, reduceLeDiff → nL, reduceLT → nT, reduceBEq → nB
open Int renaming reduceLT → iT, reduceToNat → iN, reduceEq → iE
set_option linter.unusedVariables false
set_option linter.unusedSimpArgs false
set_option maxRecDepth 100000

def r41_Word (a0 : ApiWord) : Option (List UInt8) :=
  bindO (r41_Text a0.Value) fun (y101 : (List UInt8)) =>
  guardO (okStr (runeS (IntKind.i32.wrap a0.Letter)) y101) (
  some ((runeS (IntKind.i32.wrap a0.Letter)) ++ y101))
theorem r41_Word_spec {a0 : ApiWord} {y : (List UInt8)} (h : r41_Word a0 = some y) : Spec gP 40 [.agg [.d (.int .u8 a0.Letter), .d (.int .i64 a0.Value)]] (.d (.str y)) := by
  refine spec_mir Tryd.func40 rfl (by kernel_rfl) (by kernel_rfl) (fun y : (List UInt8) => .d (.str y)) ?_ h
  unfold r41_Word
  simp only [List.replicate, List.length, nS, nA, Tryd.ntmps40, SV]
  refine Mir.seqK (Mir.region fun e h => ?_)
  simp only [↓reduceIte, reduceCtorEq, nA, nS, nM, nE, nL, nT, nB, iT, iN, iE, and_self, SR, SV]
  refine Mir.use (e := e) ?_ h
  refine Mir.seqK (Mir.bind fun y101 hy1 => Mir.guard fun q2 => ?_)
  replace q2 := okStr_ok q2
  refine Mir.regionD [] (by kernel_rfl) fun e h => ?_
  simp only [↓reduceIte, reduceCtorEq, nA, nS, nM, nE, nL, nT, nB, iT, iN, iE, and_self, SR, SV, sepL_nil, sepL_cons, sepV_ne, sepV_d, sepV_i, true_and, Bool.and_self, fld_65_0, sz_5, ag_5, und_5, und_21, und_9, rune_enc, fld_65_1, sz_2, ag_2]
  refine Spec.by (r41_Text_spec hy1) (by simp only [↓reduceIte, reduceCtorEq, nA, nE, nL, and_self, and_true, true_and, SL]) ?_
  simp only [↓reduceIte, reduceCtorEq, nA, nS, nM, nE, nL, nT, nB, iT, iN, iE, and_self, SR, SV, sepL_nil, sepL_cons, sepV_ne, sepV_d, sepV_i, true_and, Bool.and_self, q2]
  refine Mir.use (e := e) ?_ h
  refine Mir.ret fun e h => ?_
  cases h
  simp only [↓reduceIte, reduceCtorEq, nA, nE, nL, and_self, and_true, true_and, SL, Tryd.results40]

def r41_Format (a0 : ApiBlock) : Option ((List UInt8) × Int) :=
  bindO (r41_Valid a0) fun (y101 : Int) =>
  if (y101 != 0) = true then
    some ([], y101)
  else
    bindO (guardO (okIdx a0.Words) (
        rangeX (fun (i152 : Nat) (e154 : ApiWord) (v153 : (List UInt8)) =>
          bindO (if (decide ((i152 : Int) > 0)) = true then
                guardO (okStr v153 [32]) (
                some (v153 ++ [32]))
              else
                some v153) fun (v157 : (List UInt8)) =>
          bindO (r41_Word e154) fun (y158 : (List UInt8)) =>
          guardO (okStr v157 y158) (
          some (.go (v157 ++ y158)))) (fun (v153 : (List UInt8)) => some v153) a0.Words 0 [])) fun (v130 : (List UInt8)) =>
    bindO (if (!(a0.Comment == [])) = true then
          bindO (if (!(v130 == [])) = true then
                guardO (okStr v130 [32]) (
                some (v130 ++ [32]))
              else
                some v130) fun (v161 : (List UInt8)) =>
          guardO (okStr v161 [40]) (
          guardO (okStr (v161 ++ [40]) a0.Comment) (
          guardO (okStr ((v161 ++ [40]) ++ a0.Comment) [41]) (
          some (((v161 ++ [40]) ++ a0.Comment) ++ [41]))))
        else
          some v130) fun (v160 : (List UInt8)) =>
    bindO (if a0.Skip = true then
          guardO (okStr [47] v160) (
          some ([47] ++ v160))
        else
          some v160) fun (v162 : (List UInt8)) =>
    some (v162, 0)
set_option maxHeartbeats 8000000 in
theorem r41_Format_spec {a0 : ApiBlock} {y : (List UInt8) × Int} (h : r41_Format a0 = some y) : Spec gP 16 [.agg [.d (.bool a0.Skip), .d (.list (List.map encApiWord a0.Words)), .d (.str a0.Comment)]] (.tuple [.d (.str y.1), .d (.int .i64 y.2)]) := by
  refine spec_mir Tryd.func16 rfl (by kernel_rfl) (by kernel_rfl) (fun y : (List UInt8) × Int => .tuple [.d (.str y.1), .d (.int .i64 y.2)]) ?_ h
  unfold r41_Format
  simp only [List.replicate, List.length, nS, nA, Tryd.ntmps16, SV]
  refine Mir.seqK (Mir.region fun e h => ?_)
  simp only [↓reduceIte, reduceCtorEq, nA, nS, nM, nE, nL, nT, nB, iT, iN, iE, and_self, SR, SV, ENMB]
  refine Mir.use (e := e) ?_ h
  refine Mir.seqK (Mir.seqK (Mir.bind fun y101 hy1 => Mir.region fun e h => ?_))
  simp only [↓reduceIte, reduceCtorEq, nA, nS, nM, nE, nL, nT, nB, iT, iN, iE, and_self, SR, SV, ag_31, sz_31, ENMB]
  refine SpecS.by (r41_Valid_spec hy1) (by simp only [↓reduceIte, reduceCtorEq, nA, nE, nL, and_self, and_true, true_and, SL, ENMB]) ?_
  simp only [↓reduceIte, reduceCtorEq, nA, nS, nM, nE, nL, nT, nB, iT, iN, iE, and_self, SR, SV, ENMB]
  refine Mir.use (e := e) ?_ h
  refine Mir.seqK (Mir.region fun e h => ?_)
  simp only [↓reduceIte, reduceCtorEq, nA, nS, nM, nE, nL, nT, nB, iT, iN, iE, and_self, SR, SV, ENMB]
  refine Mir.use (e := e) ?_ h
  refine Mir.cond rfl (fun hb3 => ?_) (fun hb3 => ?_)
  ·refine Mir.seqK (Mir.region fun e h => ?_)
   simp only [↓reduceIte, reduceCtorEq, nA, nS, nM, nE, nL, nT, nB, iT, iN, iE, and_self, SR, SV, ENMB]
   refine Mir.use (e := e) ?_ h
   refine Mir.ret fun e h => ?_
   cases h
   simp only [↓reduceIte, reduceCtorEq, nA, nE, nL, and_self, and_true, true_and, SL, ENMB, Tryd.results16]
  ·refine Mir.skip (Mir.toK (Mir.seqK (Mir.region fun e h => ?_)))
   simp only [↓reduceIte, reduceCtorEq, nA, nS, nM, nE, nL, nT, nB, iT, iN, iE, and_self, SR, SV, ENMB]
   refine Mir.use (e := e) ?_ h
   refine Mir.seqK (Mir.seqK (Mir.region fun e h => ?_))
   simp only [↓reduceIte, reduceCtorEq, nA, nS, nM, nE, nL, nT, nB, iT, iN, iE, and_self, SR, SV, ENMB]
   refine Mir.use (e := e) ?_ h
   refine Mir.joinO (fun v130 : (List UInt8) => [U, .ptr 0 0, U, U, U, .d (.str v130), U, U, U, U, U, U, U, U, U, U, U, U, U, U, U, U, U, U, U, U, U, U, U, U, U, U, U, U, U, U, U, U, U, U, U, U, U, U, U, U, U, U, U]) (fun v130 : (List UInt8) => ⟨[[.d (.bool a0.Skip), .d (.list (List.map encApiWord a0.Words)), .d (.str a0.Comment)]], []⟩) (fun _ => rfl) ?_ ?_
   ·refine Mir.block (Mir.guard fun qg101 => Mir.range (fun (i152 : Nat) (v153 : (List UInt8)) => [U, .ptr 0 0, U, U, U, .d (.str v153), .d (.int .i64 (i152 : Int)), U, U, U, U, U, U, U, U, U, U, U, U, U, U, U, U, U, U, U, U, U, U, U, U, U, U, U, U, U, U, U, U, U, U, U, U, U, U, U, U, U, U]) (fun (i152 : Nat) (v153 : (List UInt8)) => ⟨[[.d (.bool a0.Skip), .d (.list (List.map encApiWord a0.Words)), .d (.str a0.Comment)]], []⟩) qg101 (fun _ _ => rfl) (by simp only [↓reduceIte, reduceCtorEq, nA, nE, nL, and_self, and_true, true_and, SL, ENMB, (nr rfl : ((0 : Nat) : Int) = 0)]) (by simp only [↓reduceIte, reduceCtorEq, nA, nE, nL, and_self, and_true, true_and, SL, ENMB, (nr rfl : ((0 : Nat) : Int) = 0)]) ?_ ?_)
    ·intro i152 e154 v153 qr99
     refine Mir.seqK (Mir.seqK (Mir.region fun e h => ?_))
     simp only [↓reduceIte, reduceCtorEq, nA, nS, nM, nE, nL, nT, nB, iT, iN, iE, and_self, SR, SV, fld_31_1, sz_29, ag_29, und_29, qr99, ENMB]
     refine Mir.use (e := e) ?_ h
     refine Mir.condT rfl (Mir.skip (Mir.toK (Mir.seqK (Mir.block (Mir.seqK (Mir.seqK (Mir.region fun e h => ?_)))))))
     simp only [↓reduceIte, reduceCtorEq, nA, nS, nM, nE, nL, nT, nB, iT, iN, iE, and_self, SR, SV, ENMB]
     refine Mir.use (e := e) ?_ h
     refine Mir.joinO (fun v157 : (List UInt8) => [U, .ptr 0 0, U, U, U, .d (.str v157), .d (.int .i64 (i152 : Int)), U, U, U, U, U, U, U, U, U, U, U, U, U, U, U, U, U, U, U, U, U, U, U, U, U, U, U, U, U, U, U, U, U, U, U, U, U, U, U, U, U, U]) (fun v157 : (List UInt8) => ⟨[[.d (.bool a0.Skip), .d (.list (List.map encApiWord a0.Words)), .d (.str a0.Comment)]], []⟩) (fun _ => rfl) ?_ ?_
     ·refine Mir.cond rfl (fun hb110 => ?_) (fun hb110 => ?_)
      ·refine Mir.guard fun q111 => ?_
       replace q111 := okStr_ok q111
       try simp only [lm, xNA, xCA, xAN, xLC, xLN, xAC, xAL, nA, Nat.zero_add] at q111
       refine Mir.region fun e h => ?_
       simp only [↓reduceIte, reduceCtorEq, nA, nS, nM, nE, nL, nT, nB, iT, iN, iE, and_self, SR, SV, q111, ENMB]
       cases h
       simp only [↓reduceIte, reduceCtorEq, nA, nE, nL, and_self, and_true, true_and, SL, ENMB, Tryd.results16]
      ·refine Mir.skip fun e h => ?_
       cases h
       simp only [↓reduceIte, reduceCtorEq, nA, nE, nL, and_self, and_true, true_and, SL, ENMB, Tryd.results16]
     ·intro v157
      refine Mir.toK (Mir.bind fun y158 hy112 => Mir.guard fun q113 => ?_)
      replace q113 := okStr_ok q113
      refine Mir.region fun e h => ?_
      simp only [↓reduceIte, reduceCtorEq, nA, nS, nM, nE, nL, nT, nB, iT, iN, iE, and_self, SR, SV, fld_31_1, sz_29, ag_29, und_29, sz_65, qr99, Int.toNat_natCast, ag_65, ENMB]
      refine SpecS.by (r41_Word_spec hy112) (by simp only [↓reduceIte, reduceCtorEq, nA, nE, nL, and_self, and_true, true_and, SL, ENMB]) ?_
      simp only [↓reduceIte, reduceCtorEq, nA, nS, nM, nE, nL, nT, nB, iT, iN, iE, and_self, SR, SV, q113, ENMB]
      refine Mir.use (e := e) ?_ h
      refine Mir.region fun e h => ?_
      simp only [↓reduceIte, reduceCtorEq, nA, nS, nM, nE, nL, nT, nB, iT, iN, iE, and_self, SR, SV, ENMB]
      cases h
      simp only [↓reduceIte, reduceCtorEq, nA, nE, nL, and_self, and_true, true_and, SL, ENMB, Tryd.results16, qr99]
    ·intro v153 qd100
     refine Mir.seqK (Mir.seqK (Mir.region fun e h => ?_))
     simp only [↓reduceIte, reduceCtorEq, nA, nS, nM, nE, nL, nT, nB, iT, iN, iE, and_self, SR, SV, fld_31_1, sz_29, ag_29, und_29, qd100, ENMB]
     refine Mir.use (e := e) ?_ h
     refine Mir.condF rfl (Mir.exit fun e h => ?_)
     cases h
     simp only [↓reduceIte, reduceCtorEq, nA, nE, nL, and_self, and_true, true_and, SL, ENMB, Tryd.results16]
   ·intro v130
    refine Mir.toK (Mir.seqK (Mir.seqK (Mir.region fun e h => ?_)))
    simp only [↓reduceIte, reduceCtorEq, nA, nS, nM, nE, nL, nT, nB, iT, iN, iE, and_self, SR, SV, fld_31_2, sz_9, ag_9, ENMB]
    refine Mir.use (e := e) ?_ h
    refine Mir.joinO (fun v160 : (List UInt8) => [U, .ptr 0 0, U, U, U, .d (.str v160), U, U, U, U, U, U, U, U, U, U, U, U, U, U, U, U, U, U, U, U, U, U, U, U, U, U, U, U, U, U, U, U, U, U, U, U, U, U, U, U, U, U, U]) (fun v160 : (List UInt8) => ⟨[[.d (.bool a0.Skip), .d (.list (List.map encApiWord a0.Words)), .d (.str a0.Comment)]], []⟩) (fun _ => rfl) ?_ ?_
    ·refine Mir.cond rfl (fun hb122 => ?_) (fun hb122 => ?_)
     ·refine Mir.seqK (Mir.seqK (Mir.region fun e h => ?_))
      simp only [↓reduceIte, reduceCtorEq, nA, nS, nM, nE, nL, nT, nB, iT, iN, iE, and_self, SR, SV, ENMB]
      refine Mir.use (e := e) ?_ h
      refine Mir.joinO (fun v161 : (List UInt8) => [U, .ptr 0 0, U, U, U, .d (.str v161), U, U, U, U, U, U, U, U, U, U, U, U, U, U, U, U, U, U, U, U, U, U, U, U, U, U, U, U, U, U, U, U, U, U, U, U, U, U, U, U, U, U, U]) (fun v161 : (List UInt8) => ⟨[[.d (.bool a0.Skip), .d (.list (List.map encApiWord a0.Words)), .d (.str a0.Comment)]], []⟩) (fun _ => rfl) ?_ ?_
      ·refine Mir.cond rfl (fun hb125 => ?_) (fun hb125 => ?_)
       ·refine Mir.guard fun q126 => ?_
        replace q126 := okStr_ok q126
        try simp only [lm, xNA, xCA, xAN, xLC, xLN, xAC, xAL, nA, Nat.zero_add] at q126
        refine Mir.region fun e h => ?_
        simp only [↓reduceIte, reduceCtorEq, nA, nS, nM, nE, nL, nT, nB, iT, iN, iE, and_self, SR, SV, q126, ENMB]
        cases h
        simp only [↓reduceIte, reduceCtorEq, nA, nE, nL, and_self, and_true, true_and, SL, ENMB, Tryd.results16]
       ·refine Mir.skip fun e h => ?_
        cases h
        simp only [↓reduceIte, reduceCtorEq, nA, nE, nL, and_self, and_true, true_and, SL, ENMB, Tryd.results16]
      ·intro v161
       refine Mir.toK (Mir.guard fun q127 => ?_)
       replace q127 := okStr_ok q127
       try simp only [lm, xNA, xCA, xAN, xLC, xLN, xAC, xAL, nA, Nat.zero_add] at q127
       refine Mir.guard fun q128 => ?_
       replace q128 := okStr_ok q128
       try simp only [lm, xNA, xCA, xAN, xLC, xLN, xAC, xAL, nA, Nat.zero_add] at q128
       refine Mir.guard fun q129 => ?_
       replace q129 := okStr_ok q129
       try simp only [lm, xNA, xCA, xAN, xLC, xLN, xAC, xAL, nA, Nat.zero_add] at q129
       refine Mir.region fun e h => ?_
       simp only [↓reduceIte, reduceCtorEq, nA, nS, nM, nE, nL, nT, nB, iT, iN, iE, and_self, SR, SV, q127, fld_31_2, sz_9, ag_9, q128, q129, ENMB]
       cases h
       simp only [↓reduceIte, reduceCtorEq, nA, nE, nL, and_self, and_true, true_and, SL, ENMB, Tryd.results16]
     ·refine Mir.skip fun e h => ?_
      cases h
      simp only [↓reduceIte, reduceCtorEq, nA, nE, nL, and_self, and_true, true_and, SL, ENMB, Tryd.results16]
    ·intro v160
     refine Mir.toK (Mir.seqK (Mir.seqK (Mir.region fun e h => ?_)))
     simp only [↓reduceIte, reduceCtorEq, nA, nS, nM, nE, nL, nT, nB, iT, iN, iE, and_self, SR, SV, fld_31_0, sz_4, ag_4, ENMB]
     refine Mir.use (e := e) ?_ h
     refine Mir.joinO (fun v162 : (List UInt8) => [U, U, U, U, U, .d (.str v162), U, U, U, U, U, U, U, U, U, U, U, U, U, U, U, U, U, U, U, U, U, U, U, U, U, U, U, U, U, U, U, U, U, U, U, U, U, U, U, U, U, U, U]) (fun v162 : (List UInt8) => ⟨[[.d (.bool a0.Skip), .d (.list (List.map encApiWord a0.Words)), .d (.str a0.Comment)]], []⟩) (fun _ => rfl) ?_ ?_
     ·refine Mir.cond rfl (fun hb132 => ?_) (fun hb132 => ?_)
      ·refine Mir.guard fun q133 => ?_
       replace q133 := okStr_ok q133
       try simp only [lm, xNA, xCA, xAN, xLC, xLN, xAC, xAL, nA, Nat.zero_add] at q133
       refine Mir.region fun e h => ?_
       simp only [↓reduceIte, reduceCtorEq, nA, nS, nM, nE, nL, nT, nB, iT, iN, iE, and_self, SR, SV, q133, ENMB]
       cases h
       simp only [↓reduceIte, reduceCtorEq, nA, nE, nL, and_self, and_true, true_and, SL, ENMB, Tryd.results16]
      ·refine Mir.skip fun e h => ?_
       cases h
       simp only [↓reduceIte, reduceCtorEq, nA, nE, nL, and_self, and_true, true_and, SL, ENMB, Tryd.results16]
     ·intro v162
      refine Mir.toK (Mir.seqK (Mir.region fun e h => ?_))
      simp only [↓reduceIte, reduceCtorEq, nA, nS, nM, nE, nL, nT, nB, iT, iN, iE, and_self, SR, SV, ENMB]
      refine Mir.use (e := e) ?_ h
      refine Mir.ret fun e h => ?_
      cases h
      simp only [↓reduceIte, reduceCtorEq, nA, nE, nL, and_self, and_true, true_and, SL, ENMB, Tryd.results16]

def r41_comment (a0 : (List UInt8)) (a1 : Int) : Option ((List UInt8) × Int × Int) :=
  bindO (loopX (fun (v136 : Int) =>
        bindO (if (decide (v136 < (a0.length : Int))) = true then
              bindO (gt a0 v136) fun (c137 : UInt8) =>
              bindO (r41_printable (c137.toNat : Int)) fun (y138 : Bool) =>
              some y138
            else
              some false) fun (v139 : Bool) =>
        if v139 = true then
          some (.go (IntKind.i64.wrap (v136 + 1)))
        else
          some (.ret v136)) fuel (IntKind.i64.wrap (a1 + 1))) fun (v120 : Int) =>
  if (decide ((IntKind.i64.wrap ((IntKind.i64.wrap (v120 - a1)) - 1)) > 100)) = true then
    some ([], a1, 3)
  else
    bindO (if (v120 == (a0.length : Int)) = true then
          some true
        else
          bindO (gt a0 v120) fun (c140 : UInt8) =>
          if ((c140.toNat : Int) != 41) = true then
            some true
          else
            some (v120 == (IntKind.i64.wrap (a1 + 1)))) fun (v141 : Bool) =>
    if v141 = true then
      some ([], v120, 2)
    else
      if (decide ((IntKind.i64.wrap (v120 + 1)) < (a0.length : Int))) = true then
        some ([], IntKind.i64.wrap (v120 + 1), 2)
      else
        bindO (cutL a0 (IntKind.i64.wrap (a1 + 1)) v120) fun (s142 : (List UInt8)) =>
        some (s142, IntKind.i64.wrap (v120 + 1), 0)
theorem r41_comment_spec {a0 : (List UInt8)} {a1 : Int} {y : (List UInt8) × Int × Int} (h : r41_comment a0 a1 = some y) : Spec gP 44 [.d (.str a0), .d (.int .i64 a1)] (.tuple [.d (.str y.1), .d (.int .i64 y.2.1), .d (.int .i64 y.2.2)]) := by
  refine spec_mir Tryd.func44 rfl (by kernel_rfl) (by kernel_rfl) (fun y : (List UInt8) × Int × Int => .tuple [.d (.str y.1), .d (.int .i64 y.2.1), .d (.int .i64 y.2.2)]) ?_ h
  unfold r41_comment
  simp only [List.replicate, List.length, nS, nA, Tryd.ntmps44, SV]
  refine Mir.seqK (Mir.region fun e h => ?_)
  simp only [↓reduceIte, reduceCtorEq, nA, nS, nM, nE, nL, nT, nB, iT, iN, iE, and_self, SR, SV]
  refine Mir.use (e := e) ?_ h
  refine Mir.seqK (Mir.region fun e h => ?_)
  simp only [↓reduceIte, reduceCtorEq, nA, nS, nM, nE, nL, nT, nB, iT, iN, iE, and_self, SR, SV]
  refine Mir.use (e := e) ?_ h
  refine Mir.seqK (Mir.joinO (fun v120 : Int => [.d (.str a0), .d (.int .i64 a1), U, U, U, U, U, .d (.int .i64 v120), U, U, U, U, U, U, U, U, U, U, U, U, U, U, U, U, U, U, U, U, U, U, U, U, U, U, U, U, U, U, U, U, U, U, U, U, U, U, U, U, U, U, U, U, U, U, U, U, U, U, U]) (fun v120 : Int => ⟨[], []⟩) (fun _ => rfl) ?_ ?_)
  ·refine Mir.block (Mir.loop (fun v136 : Int => [.d (.str a0), .d (.int .i64 a1), U, U, U, U, U, .d (.int .i64 v136), U, U, U, U, U, U, U, U, U, U, U, U, U, U, U, U, U, U, U, U, U, U, U, U, U, U, U, U, U, U, U, U, U, U, U, U, U, U, U, U, U, U, U, U, U, U, U, U, U, U, U]) (fun v136 : Int => ⟨[], []⟩) (fun _ => rfl) (by simp only [↓reduceIte, reduceCtorEq, nA, nE, nL, and_self, and_true, true_and, SL]) (by simp only [↓reduceIte, reduceCtorEq, nA, nE, nL, and_self, and_true, true_and, SL]) fun v136 => Mir.seqK (Mir.seqK (Mir.joinO (fun v139 : Bool => [.d (.str a0), .d (.int .i64 a1), U, U, U, U, U, .d (.int .i64 v136), U, U, U, U, U, U, U, U, U, U, U, .d (.bool v139), U, U, U, U, U, U, U, U, U, U, U, U, U, U, U, U, U, U, U, U, U, U, U, U, U, U, U, U, U, U, U, U, U, U, U, U, U, U, U]) (fun v139 : Bool => ⟨[], []⟩) (fun _ => rfl) ?_ ?_)))
   ·refine Mir.ite (fun hb38 => ?_) (fun hb38 => ?_)
    ·refine Mir.bind fun c137 q39 => ?_
     replace q39 := gt_ok q39
     refine Mir.bind fun y138 hy40 => Mir.region fun e h => ?_
     simp only [↓reduceIte, reduceCtorEq, nA, nS, nM, nE, nL, nT, nB, iT, iN, iE, and_self, SR, SV, und_9, q39, hb38]
     refine SpecS.by (r41_printable_spec hy40) (by simp only [↓reduceIte, reduceCtorEq, nA, nE, nL, and_self, and_true, true_and, SL, hb38]) ?_
     simp only [↓reduceIte, reduceCtorEq, nA, nS, nM, nE, nL, nT, nB, iT, iN, iE, and_self, SR, SV, hb38]
     cases h
     simp only [↓reduceIte, reduceCtorEq, nA, nE, nL, and_self, and_true, true_and, SL, hb38]
    ·refine Mir.region fun e h => ?_
     simp only [↓reduceIte, reduceCtorEq, nA, nS, nM, nE, nL, nT, nB, iT, iN, iE, and_self, SR, SV, und_9, hb38]
     cases h
     simp only [↓reduceIte, reduceCtorEq, nA, nE, nL, and_self, and_true, true_and, SL, hb38]
   ·intro v139
    refine Mir.toK (Mir.cond rfl (fun hb42 => ?_) (fun hb42 => ?_))
    ·refine Mir.skip (Mir.toK (Mir.block (Mir.region fun e h => ?_)))
     simp only [↓reduceIte, reduceCtorEq, nA, nS, nM, nE, nL, nT, nB, iT, iN, iE, and_self, SR, SV]
     cases h
     simp only [↓reduceIte, reduceCtorEq, nA, nE, nL, and_self, and_true, true_and, SL, Tryd.results44]
    ·refine Mir.exit fun e h => ?_
     cases h
     simp only [↓reduceIte, reduceCtorEq, nA, nE, nL, and_self, and_true, true_and, SL, Tryd.results44]
  ·intro v120
   refine Mir.toK (Mir.seqK (Mir.seqK (Mir.region fun e h => ?_)))
   simp only [↓reduceIte, reduceCtorEq, nA, nS, nM, nE, nL, nT, nB, iT, iN, iE, and_self, SR, SV]
   refine Mir.use (e := e) ?_ h
   refine Mir.cond rfl (fun hb44 => ?_) (fun hb44 => ?_)
   ·refine Mir.seqK (Mir.region fun e h => ?_)
    simp only [↓reduceIte, reduceCtorEq, nA, nS, nM, nE, nL, nT, nB, iT, iN, iE, and_self, SR, SV]
    refine Mir.use (e := e) ?_ h
    refine Mir.ret fun e h => ?_
    cases h
    simp only [↓reduceIte, reduceCtorEq, nA, nE, nL, and_self, and_true, true_and, SL, Tryd.results44]
   ·refine Mir.skip (Mir.toK (Mir.seqK (Mir.seqK (Mir.joinO (fun v141 : Bool => [.d (.str a0), .d (.int .i64 a1), U, U, U, U, U, .d (.int .i64 v120), U, U, U, U, U, U, U, U, U, U, U, U, U, U, U, U, U, U, U, U, U, U, U, U, U, U, U, U, U, U, U, U, U, U, U, .d (.bool v141), U, U, U, U, U, U, U, U, U, U, U, U, U, U, U]) (fun v141 : Bool => ⟨[], []⟩) (fun _ => rfl) ?_ ?_))))
    ·refine Mir.ite (fun hb45 => ?_) (fun hb45 => ?_)
     ·refine Mir.region fun e h => ?_
      simp only [↓reduceIte, reduceCtorEq, nA, nS, nM, nE, nL, nT, nB, iT, iN, iE, and_self, SR, SV, und_9, hb45]
      cases h
      simp only [↓reduceIte, reduceCtorEq, nA, nE, nL, and_self, and_true, true_and, SL, hb45]
     ·refine Mir.bind fun c140 q46 => ?_
      replace q46 := gt_ok q46
      refine Mir.ite (fun hb47 => ?_) (fun hb47 => ?_)
      ·refine Mir.region fun e h => ?_
       simp only [↓reduceIte, reduceCtorEq, nA, nS, nM, nE, nL, nT, nB, iT, iN, iE, and_self, SR, SV, und_9, q46, hb45, hb47]
       cases h
       simp only [↓reduceIte, reduceCtorEq, nA, nE, nL, and_self, and_true, true_and, SL, hb45, hb47]
      ·refine Mir.region fun e h => ?_
       simp only [↓reduceIte, reduceCtorEq, nA, nS, nM, nE, nL, nT, nB, iT, iN, iE, and_self, SR, SV, und_9, q46, hb45, hb47]
       cases h
       simp only [↓reduceIte, reduceCtorEq, nA, nE, nL, and_self, and_true, true_and, SL, hb45, hb47]
    ·intro v141
     refine Mir.toK (Mir.cond rfl (fun hb49 => ?_) (fun hb49 => ?_))
     ·refine Mir.seqK (Mir.region fun e h => ?_)
      simp only [↓reduceIte, reduceCtorEq, nA, nS, nM, nE, nL, nT, nB, iT, iN, iE, and_self, SR, SV]
      refine Mir.use (e := e) ?_ h
      refine Mir.ret fun e h => ?_
      cases h
      simp only [↓reduceIte, reduceCtorEq, nA, nE, nL, and_self, and_true, true_and, SL, Tryd.results44]
     ·refine Mir.skip (Mir.toK (Mir.seqK (Mir.seqK (Mir.region fun e h => ?_))))
      simp only [↓reduceIte, reduceCtorEq, nA, nS, nM, nE, nL, nT, nB, iT, iN, iE, and_self, SR, SV, und_9]
      refine Mir.use (e := e) ?_ h
      refine Mir.cond rfl (fun hb51 => ?_) (fun hb51 => ?_)
      ·refine Mir.seqK (Mir.region fun e h => ?_)
       simp only [↓reduceIte, reduceCtorEq, nA, nS, nM, nE, nL, nT, nB, iT, iN, iE, and_self, SR, SV]
       refine Mir.use (e := e) ?_ h
       refine Mir.ret fun e h => ?_
       cases h
       simp only [↓reduceIte, reduceCtorEq, nA, nE, nL, and_self, and_true, true_and, SL, Tryd.results44]
      ·refine Mir.skip (Mir.toK (Mir.seqK (Mir.bind fun s142 q52 => ?_)))
       replace q52 := cutL_ok q52
       refine Mir.region fun e h => ?_
       simp only [↓reduceIte, reduceCtorEq, nA, nS, nM, nE, nL, nT, nB, iT, iN, iE, and_self, SR, SV, und_9, q52, Nat.le_refl, and_true, true_and, dm, tm]
       refine Mir.use (e := e) ?_ h
       refine Mir.ret fun e h => ?_
       cases h
       simp only [↓reduceIte, reduceCtorEq, nA, nE, nL, and_self, and_true, true_and, SL, Tryd.results44]

def r41_number (a0 : Int) : Option Bool :=
  some (if (decide (a0 ≥ 48)) = true then (decide (a0 ≤ 57)) || ((a0 == 45) || (a0 == 46)) else (a0 == 45) || (a0 == 46))
theorem r41_number_spec {a0 : Int} {y : Bool} (h : r41_number a0 = some y) : Spec gP 45 [.d (.int .u8 a0)] (.d (.bool y)) := by
  refine spec_mir Tryd.func45 rfl (by kernel_rfl) (by kernel_rfl) (fun y : Bool => .d (.bool y)) ?_ h
  unfold r41_number
  simp only [List.replicate, List.length, nS, nA, Tryd.ntmps45, SV]
  refine Mir.seqK (Mir.region fun e h => ?_)
  simp only [↓reduceIte, reduceCtorEq, nA, nS, nM, nE, nL, nT, nB, iT, iN, iE, and_self, SR, SV]
  refine Mir.use (e := e) ?_ h
  refine Mir.seqK (Mir.joinV [U, U, .d (.bool (if (decide (a0 ≥ 48)) = true then (decide (a0 ≤ 57)) || ((a0 == 45) || (a0 == 46)) else (a0 == 45) || (a0 == 46))), U, U, U, U, U, U, U, U, U, U, U, U, U, U] ⟨[], []⟩ rfl ?_ ?_)
  ·refine SWs.region ?_
   rcases Bool.eq_false_or_eq_true (decide (a0 ≥ 48)) with hb1 | hb1
   ·rcases Bool.eq_false_or_eq_true (decide (a0 ≤ 57)) with hb2 | hb2
    ·simp only [↓reduceIte, reduceCtorEq, nA, nS, nM, nE, nL, nT, nB, iT, iN, iE, and_self, SR, SV, SL, PB, hb1, hb2]
    ·rcases Bool.eq_false_or_eq_true (a0 == 45) with hb3 | hb3
     ·simp only [↓reduceIte, reduceCtorEq, nA, nS, nM, nE, nL, nT, nB, iT, iN, iE, and_self, SR, SV, SL, PB, hb1, hb2, hb3]
     ·simp only [↓reduceIte, reduceCtorEq, nA, nS, nM, nE, nL, nT, nB, iT, iN, iE, and_self, SR, SV, SL, PB, hb1, hb2, hb3]
   ·rcases Bool.eq_false_or_eq_true (a0 == 45) with hb4 | hb4
    ·simp only [↓reduceIte, reduceCtorEq, nA, nS, nM, nE, nL, nT, nB, iT, iN, iE, and_self, SR, SV, SL, PB, hb1, hb4]
    ·simp only [↓reduceIte, reduceCtorEq, nA, nS, nM, nE, nL, nT, nB, iT, iN, iE, and_self, SR, SV, SL, PB, hb1, hb4]
  ·refine Mir.toK (Mir.ret fun e h => ?_)
   cases h
   simp only [↓reduceIte, reduceCtorEq, nA, nE, nL, and_self, and_true, true_and, SL, Tryd.results45]

def r41_Parse (a0 : (List UInt8)) : Option (ApiBlock × Int × Int) :=
  if (decide ((a0.length : Int) > 65536)) = true then
    some (ApiBlock.mk false [] [], 0, 3)
  else
    bindO (if (a0 == []) = true then
          some false
        else
          bindO (gt a0 0) fun (c101 : UInt8) =>
          some ((c101.toNat : Int) == 47)) fun (v102 : Bool) =>
    bindO (if v102 = true then
          some (1, true)
        else
          some (0, false)) fun (v103 : Int × Bool) =>
    bindX (loopX (fun (v987 : Int × Bool × (List ApiWord)) =>
          if ((decide (v987.1 < (a0.length : Int))) || (!v987.2.1)) = true then
            bindX (if (v987.1 == (a0.length : Int)) = true then
                  some (.ret (.ret (.ret (ApiBlock.mk false [] [], v987.1, 2))))
                else
                  bindO (gt a0 v987.1) fun (c1034 : UInt8) =>
                  if ((c1034.toNat : Int) == 40) = true then
                    bindO (r41_comment a0 v987.1) fun (y1036 : (List UInt8) × Int × Int) =>
                    if (y1036.2.2 != 0) = true then
                      some (.ret (.ret (.ret (ApiBlock.mk false [] [], y1036.2.1, y1036.2.2))))
                    else
                      some (.ret (.ret (.ret (ApiBlock.mk v103.2 v987.2.2 y1036.1, 0, 0))))
                  else
                    if ((decide ((c1034.toNat : Int) < 65)) || (decide ((c1034.toNat : Int) > 90))) = true then
                      some (.ret (.ret (.ret (ApiBlock.mk false [] [], v987.1, 2))))
                    else
                      if ((v987.2.2.length : Int) == 16) = true then
                        some (.ret (.ret (.ret (ApiBlock.mk false [] [], v987.1, 3))))
                      else
                        bindO (loopX (fun (v1072 : Int) =>
                              bindO (if (decide (v1072 < (a0.length : Int))) = true then
                                    bindO (gt a0 v1072) fun (c1073 : UInt8) =>
                                    bindO (r41_number (c1073.toNat : Int)) fun (y1074 : Bool) =>
                                    some y1074
                                  else
                                    some false) fun (v1075 : Bool) =>
                              if v1075 = true then
                                some (.go (IntKind.i64.wrap (v1072 + 1)))
                              else
                                some (.ret v1072)) fuel (IntKind.i64.wrap (v987.1 + 1))) fun (v1056 : Int) =>
                        bindO (cutL a0 (IntKind.i64.wrap (v987.1 + 1)) v1056) fun (s1076 : (List UInt8)) =>
                        bindO (r41_Value s1076) fun (y1077 : Int × Int) =>
                        if (y1077.2 != 0) = true then
                          some (.ret (.ret (.ret (ApiBlock.mk false [] [], v987.1, y1077.2))))
                        else
                          guardO (okLen (v987.2.2.length + 1)) (
                          if (v1056 == (a0.length : Int)) = true then
                            some (.ret (.ret (.ret (ApiBlock.mk v103.2 (v987.2.2 ++ [ApiWord.mk (c1034.toNat : Int) y1077.1]) [], 0, 0))))
                          else
                            bindO (gt a0 v1056) fun (c1078 : UInt8) =>
                            if ((c1078.toNat : Int) != 32) = true then
                              some (.ret (.ret (.ret (ApiBlock.mk false [] [], v1056, 2))))
                            else
                              some (.go (IntKind.i64.wrap (v1056 + 1), v987.2.2 ++ [ApiWord.mk (c1034.toNat : Int) y1077.1])))) fun (v1033 : Int × (List ApiWord)) =>
            some (.go (v1033.1, false, v1033.2))
          else
            some (.ret (.go v987.2.2))) fuel (v103.1, true, [])) fun (v799 : (List ApiWord)) =>
    some (ApiBlock.mk v103.2 v799 [], 0, 0)
set_option maxHeartbeats 8000000 in
theorem r41_Parse_spec {a0 : (List UInt8)} {y : ApiBlock × Int × Int} (h : r41_Parse a0 = some y) : Spec gP 21 [.d (.str a0)] (.tuple [.agg [.d (.bool y.1.Skip), .d (.list (List.map encApiWord y.1.Words)), .d (.str y.1.Comment)], .d (.int .i64 y.2.1), .d (.int .i64 y.2.2)]) := by
  refine spec_mir Tryd.func21 rfl (by kernel_rfl) (by kernel_rfl) (fun y : ApiBlock × Int × Int => .tuple [.agg [.d (.bool y.1.Skip), .d (.list (List.map encApiWord y.1.Words)), .d (.str y.1.Comment)], .d (.int .i64 y.2.1), .d (.int .i64 y.2.2)]) ?_ h
  unfold r41_Parse
  simp only [List.replicate, List.length, nS, nA, Tryd.ntmps21, SV]
  refine Mir.seqK (Mir.region fun e h => ?_)
  simp only [↓reduceIte, reduceCtorEq, nA, nS, nM, nE, nL, nT, nB, iT, iN, iE, and_self, SR, SV, zero_31, ENMB]
  refine Mir.use (e := e) ?_ h
  refine Mir.seqK (Mir.seqK (Mir.region fun e h => ?_))
  simp only [↓reduceIte, reduceCtorEq, nA, nS, nM, nE, nL, nT, nB, iT, iN, iE, and_self, SR, SV, und_9, ENMB]
  refine Mir.use (e := e) ?_ h
  refine Mir.cond rfl (fun hb2 => ?_) (fun hb2 => ?_)
  ·refine Mir.seqK (Mir.region fun e h => ?_)
   simp only [↓reduceIte, reduceCtorEq, nA, nS, nM, nE, nL, nT, nB, iT, iN, iE, and_self, SR, SV, zero_31, pl_31, sz_31]
   refine Mir.use (e := e) ?_ h
   refine Mir.ret fun e h => ?_
   cases h
   simp only [↓reduceIte, reduceCtorEq, nA, nE, nL, and_self, and_true, true_and, SL, Tryd.results21, ag_31, sz_31]
  ·refine Mir.skip (Mir.toK (Mir.seqK (Mir.region fun e h => ?_)))
   simp only [↓reduceIte, reduceCtorEq, nA, nS, nM, nE, nL, nT, nB, iT, iN, iE, and_self, SR, SV, zero_31, ENMB]
   refine Mir.use (e := e) ?_ h
   refine Mir.seqK (Mir.region fun e h => ?_)
   simp only [↓reduceIte, reduceCtorEq, nA, nS, nM, nE, nL, nT, nB, iT, iN, iE, and_self, SR, SV, ENMB]
   refine Mir.use (e := e) ?_ h
   refine Mir.seqK (Mir.seqK (Mir.joinO (fun v102 : Bool => [.d (.str a0), U, .ptr 0 0, U, U, .ptr 1 0, .d (.int .i64 0), U, U, U, U, U, U, U, U, U, U, U, U, U, U, U, U, U, .d (.bool v102), U, U, U, U, U, U, U, U, U, U, U, U, U, U, U, U, U, U, U, U, U, U, U, U, U, U, U, U, U, U, U, U, U, U, U, U, U, U, U, U, U, U, U, U, U, U, U, U, U, U, U, U, U, U, U, U, U, U, U, U, U, U, U, U, U, U, U, U, U, U, U, U, U, U, U, U, U, U, U, U, U, U, U, U, U, U, U, U, U, U, U, U, U, U, U, U, U, U, U, U, U, U, U, U]) (fun v102 : Bool => ⟨[[.d (.bool false), .nil, .d (.str [])], [.d (.bool false), .nil, .d (.str [])]], []⟩) (fun _ => rfl) ?_ ?_))
   ·refine Mir.ite (fun hb3 => ?_) (fun hb3 => ?_)
    ·refine Mir.region fun e h => ?_
     simp only [↓reduceIte, reduceCtorEq, nA, nS, nM, nE, nL, nT, nB, iT, iN, iE, and_self, SR, SV, hb3]
     cases h
     simp only [↓reduceIte, reduceCtorEq, nA, nE, nL, and_self, and_true, true_and, SL, hb3]
    ·refine Mir.bind fun c101 q4 => ?_
     replace q4 := gt_ok q4
     simp only [Int.reduceToNat, Int.reduceLT, Nat.sub_zero, dp0] at q4
     refine Mir.region fun e h => ?_
     simp only [↓reduceIte, reduceCtorEq, nA, nS, nM, nE, nL, nT, nB, iT, iN, iE, and_self, SR, SV, und_9, q4, hb3]
     cases h
     simp only [↓reduceIte, reduceCtorEq, nA, nE, nL, and_self, and_true, true_and, SL, hb3]
   ·intro v102
    refine Mir.toK (Mir.joinO (fun v103 : Int × Bool => [.d (.str a0), U, .ptr 0 0, U, U, .ptr 1 0, .d (.int .i64 v103.1), U, U, U, U, U, U, U, U, U, U, U, U, U, U, U, U, U, U, U, U, U, U, U, U, U, U, U, U, U, U, U, U, U, U, U, U, U, U, U, U, U, U, U, U, U, U, U, U, U, U, U, U, U, U, U, U, U, U, U, U, U, U, U, U, U, U, U, U, U, U, U, U, U, U, U, U, U, U, U, U, U, U, U, U, U, U, U, U, U, U, U, U, U, U, U, U, U, U, U, U, U, U, U, U, U, U, U, U, U, U, U, U, U, U, U, U, U, U, U, U, U, U]) (fun v103 : Int × Bool => ⟨[[.d (.bool false), .nil, .d (.str [])], [.d (.bool v103.2), .nil, .d (.str [])]], []⟩) (fun _ => rfl) ?_ ?_)
    ·refine Mir.cond rfl (fun hb6 => ?_) (fun hb6 => ?_)
     ·refine Mir.region fun e h => ?_
      simp only [↓reduceIte, reduceCtorEq, nA, nS, nM, nE, nL, nT, nB, iT, iN, iE, and_self, SR, SV, fld_31_0, sz_4]
      cases h
      simp only [↓reduceIte, reduceCtorEq, nA, nE, nL, and_self, and_true, true_and, SL, Tryd.results21, ag_31, sz_31]
     ·refine Mir.skip fun e h => ?_
      cases h
      simp only [↓reduceIte, reduceCtorEq, nA, nE, nL, and_self, and_true, true_and, SL, Tryd.results21, ag_31, sz_31]
    ·intro v103
     refine Mir.toK (Mir.seqK (Mir.seqK (Mir.region fun e h => ?_)))
     simp only [↓reduceIte, reduceCtorEq, nA, nS, nM, nE, nL, nT, nB, iT, iN, iE, and_self, SR, SV, ENMB]
     refine Mir.use (e := e) ?_ h
     refine Mir.gh [.cell 1 1 65] rfl (Mir.join (fun v799 : (List ApiWord) => [U, U, .ptr 0 0, U, U, .ptr 1 0, U, U, U, U, U, U, U, U, U, U, U, U, U, U, U, U, U, U, U, U, U, U, U, U, U, U, U, U, U, U, U, U, U, U, U, U, U, U, U, U, U, U, U, U, U, U, U, U, U, U, U, U, U, U, U, U, U, U, U, U, U, U, U, U, U, U, U, U, U, U, U, U, U, U, U, U, U, U, U, U, U, U, U, U, U, U, U, U, U, U, U, U, U, U, U, U, U, U, U, U, U, U, U, U, U, U, U, U, U, U, U, U, U, U, U, U, U, U, U, U, U, U, U]) (fun v799 : (List ApiWord) => ⟨[[.d (.bool false), .nil, .d (.str [])], [.d (.bool v103.2), .own 0 (List.map encApiWord v799), .d (.str [])]], [(65, v799.length)]⟩) (fun _ => rfl) ?_ ?_)
     ·refine Mir.block (Mir.loop (fun v987 : Int × Bool × (List ApiWord) => [.d (.str a0), U, .ptr 0 0, U, U, .ptr 1 0, .d (.int .i64 v987.1), .d (.bool v987.2.1), U, U, U, U, U, U, U, U, U, U, U, U, U, U, U, U, U, U, U, U, U, U, U, U, U, U, U, U, U, U, U, U, U, U, U, U, U, U, U, U, U, U, U, U, U, U, U, U, U, U, U, U, U, U, U, U, U, U, U, U, U, U, U, U, U, U, U, U, U, U, U, U, U, U, U, U, U, U, U, U, U, U, U, U, U, U, U, U, U, U, U, U, U, U, U, U, U, U, U, U, U, U, U, U, U, U, U, U, U, U, U, U, U, U, U, U, U, U, U, U, U]) (fun v987 : Int × Bool × (List ApiWord) => ⟨[[.d (.bool false), .nil, .d (.str [])], [.d (.bool v103.2), .own 0 (List.map encApiWord v987.2.2), .d (.str [])]], [(65, v987.2.2.length)]⟩) (fun _ => rfl) (by simp only [↓reduceIte, reduceCtorEq, nA, nE, nL, and_self, and_true, true_and, SL, ENMB]) (by simp only [↓reduceIte, reduceCtorEq, nA, nE, nL, and_self, and_true, true_and, SL, ENMB]) fun v987 => Mir.seqK (Mir.seqK (Mir.joinV [.d (.str a0), U, .ptr 0 0, U, U, .ptr 1 0, .d (.int .i64 v987.1), U, U, U, U, U, U, U, U, U, U, U, U, U, U, U, U, U, U, U, U, U, U, U, U, U, U, .d (.bool ((decide (v987.1 < (a0.length : Int))) || (!v987.2.1))), U, U, U, U, U, U, U, U, U, U, U, U, U, U, U, U, U, U, U, U, U, U, U, U, U, U, U, U, U, U, U, U, U, U, U, U, U, U, U, U, U, U, U, U, U, U, U, U, U, U, U, U, U, U, U, U, U, U, U, U, U, U, U, U, U, U, U, U, U, U, U, U, U, U, U, U, U, U, U, U, U, U, U, U, U, U, U, U, U, U, U, U, U, U, U] ⟨[[.d (.bool false), .nil, .d (.str [])], [.d (.bool v103.2), .own 0 (List.map encApiWord v987.2.2), .d (.str [])]], [(65, v987.2.2.length)]⟩ rfl ?_ ?_)))
      ·refine SWs.region ?_
       rcases Bool.eq_false_or_eq_true (decide (v987.1 < (a0.length : Int))) with hb1305 | hb1305
       ·simp only [↓reduceIte, reduceCtorEq, nA, nS, nM, nE, nL, nT, nB, iT, iN, iE, and_self, SR, SV, SL, PB, und_9, hb1305, ENMB]
       ·simp only [↓reduceIte, reduceCtorEq, nA, nS, nM, nE, nL, nT, nB, iT, iN, iE, and_self, SR, SV, SL, PB, und_9, hb1305, ENMB]
      ·refine Mir.toK (Mir.cond rfl (fun hb1307 => ?_) (fun hb1307 => ?_))
       ·refine Mir.skip (Mir.toK (Mir.seqK (Mir.join (fun v1033 : Int × (List ApiWord) => [.d (.str a0), U, .ptr 0 0, U, U, .ptr 1 0, .d (.int .i64 v1033.1), U, U, U, U, U, U, U, U, U, U, U, U, U, U, U, U, U, U, U, U, U, U, U, U, U, U, U, U, U, U, U, U, U, U, U, U, U, U, U, U, U, U, U, U, U, U, U, U, U, U, U, U, U, U, U, U, U, U, U, U, U, U, U, U, U, U, U, U, U, U, U, U, U, U, U, U, U, U, U, U, U, U, U, U, U, U, U, U, U, U, U, U, U, U, U, U, U, U, U, U, U, U, U, U, U, U, U, U, U, U, U, U, U, U, U, U, U, U, U, U, U, U]) (fun v1033 : Int × (List ApiWord) => ⟨[[.d (.bool false), .nil, .d (.str [])], [.d (.bool v103.2), .own 0 (List.map encApiWord v1033.2), .d (.str [])]], [(65, v1033.2.length)]⟩) (fun _ => rfl) ?_ ?_)))
        ·refine Mir.block (Mir.seqK (Mir.seqK (Mir.region fun e h => ?_)))
         simp only [↓reduceIte, reduceCtorEq, nA, nS, nM, nE, nL, nT, nB, iT, iN, iE, and_self, SR, SV, und_9, ENMB]
         refine Mir.use (e := e) ?_ h
         refine Mir.cond rfl (fun hb1377 => ?_) (fun hb1377 => ?_)
         ·refine Mir.seqK (Mir.region fun e h => ?_)
          simp only [↓reduceIte, reduceCtorEq, nA, nS, nM, nE, nL, nT, nB, iT, iN, iE, and_self, SR, SV, zero_31, pl_31, sz_31, ENMB]
          refine Mir.use (e := e) ?_ h
          refine Mir.ret fun e h => ?_
          cases h
          simp only [↓reduceIte, reduceCtorEq, nA, nE, nL, and_self, and_true, true_and, SL, ENMB, Tryd.results21, ag_31, sz_31]
         ·refine Mir.skip (Mir.toK (Mir.seqK (Mir.seqK (Mir.bind fun c1034 q1378 => ?_))))
          replace q1378 := gt_ok q1378
          refine Mir.region fun e h => ?_
          simp only [↓reduceIte, reduceCtorEq, nA, nS, nM, nE, nL, nT, nB, iT, iN, iE, and_self, SR, SV, und_9, q1378, ENMB]
          refine Mir.use (e := e) ?_ h
          refine Mir.cond rfl (fun hb1383 => ?_) (fun hb1383 => ?_)
          ·refine Mir.seqK (Mir.bind fun y1036 hy1384 => Mir.region fun e h => ?_)
           simp only [↓reduceIte, reduceCtorEq, nA, nS, nM, nE, nL, nT, nB, iT, iN, iE, and_self, SR, SV, ENMB]
           refine SpecS.by (r41_comment_spec hy1384) (by simp only [↓reduceIte, reduceCtorEq, nA, nE, nL, and_self, and_true, true_and, SL, ENMB]) ?_
           simp only [↓reduceIte, reduceCtorEq, nA, nS, nM, nE, nL, nT, nB, iT, iN, iE, and_self, SR, SV, ENMB]
           refine Mir.use (e := e) ?_ h
           refine Mir.seqK (Mir.seqK (Mir.region fun e h => ?_))
           simp only [↓reduceIte, reduceCtorEq, nA, nS, nM, nE, nL, nT, nB, iT, iN, iE, and_self, SR, SV, ENMB]
           refine Mir.use (e := e) ?_ h
           refine Mir.cond rfl (fun hb1386 => ?_) (fun hb1386 => ?_)
           ·refine Mir.seqK (Mir.region fun e h => ?_)
            simp only [↓reduceIte, reduceCtorEq, nA, nS, nM, nE, nL, nT, nB, iT, iN, iE, and_self, SR, SV, zero_31, pl_31, sz_31, ENMB]
            refine Mir.use (e := e) ?_ h
            refine Mir.ret fun e h => ?_
            cases h
            simp only [↓reduceIte, reduceCtorEq, nA, nE, nL, and_self, and_true, true_and, SL, ENMB, Tryd.results21, ag_31, sz_31]
           ·refine Mir.skip (Mir.toK (Mir.seqK (Mir.region fun e h => ?_)))
            simp only [↓reduceIte, reduceCtorEq, nA, nS, nM, nE, nL, nT, nB, iT, iN, iE, and_self, SR, SV, fld_31_2, sz_9, ENMB]
            refine Mir.use (e := e) ?_ h
            refine Mir.seqK (Mir.region fun e h => ?_)
            simp only [↓reduceIte, reduceCtorEq, nA, nS, nM, nE, nL, nT, nB, iT, iN, iE, and_self, SR, SV, ag_31, sz_31, ENMB]
            refine Mir.use (e := e) ?_ h
            refine Mir.ret fun e h => ?_
            cases h
            simp only [↓reduceIte, reduceCtorEq, nA, nE, nL, and_self, and_true, true_and, SL, ENMB, Tryd.results21, ag_31, sz_31]
          ·refine Mir.skip (Mir.toK (Mir.seqK (Mir.seqK (Mir.joinV [.d (.str a0), U, .ptr 0 0, U, U, .ptr 1 0, .d (.int .i64 v987.1), U, U, U, U, U, U, U, U, U, U, U, U, U, U, U, U, U, U, U, U, U, U, U, U, U, U, U, U, U, U, U, U, U, U, U, U, U, U, U, U, U, U, U, U, U, U, U, U, U, U, U, U, U, U, U, U, U, U, U, U, U, .d (.bool ((decide ((c1034.toNat : Int) < 65)) || (decide ((c1034.toNat : Int) > 90)))), U, U, U, U, U, U, U, U, U, U, U, U, U, U, U, U, U, U, U, U, U, U, U, U, U, U, U, U, U, U, U, U, U, U, U, U, U, U, U, U, U, U, U, U, U, U, U, U, U, U, U, U, U, U, U, U, U, U, U, U] ⟨[[.d (.bool false), .nil, .d (.str [])], [.d (.bool v103.2), .own 0 (List.map encApiWord v987.2.2), .d (.str [])]], [(65, v987.2.2.length)]⟩ rfl ?_ ?_))))
           ·refine SWs.region ?_
            rcases Bool.eq_false_or_eq_true (decide ((c1034.toNat : Int) < 65)) with hb1387 | hb1387
            ·simp only [↓reduceIte, reduceCtorEq, nA, nS, nM, nE, nL, nT, nB, iT, iN, iE, and_self, SR, SV, SL, PB, und_9, q1378, hb1387, ENMB]
            ·simp only [↓reduceIte, reduceCtorEq, nA, nS, nM, nE, nL, nT, nB, iT, iN, iE, and_self, SR, SV, SL, PB, und_9, q1378, hb1387, ENMB]
           ·refine Mir.toK (Mir.cond rfl (fun hb1389 => ?_) (fun hb1389 => ?_))
            ·refine Mir.seqK (Mir.region fun e h => ?_)
             simp only [↓reduceIte, reduceCtorEq, nA, nS, nM, nE, nL, nT, nB, iT, iN, iE, and_self, SR, SV, zero_31, pl_31, sz_31, ENMB]
             refine Mir.use (e := e) ?_ h
             refine Mir.ret fun e h => ?_
             cases h
             simp only [↓reduceIte, reduceCtorEq, nA, nE, nL, and_self, and_true, true_and, SL, ENMB, Tryd.results21, ag_31, sz_31]
            ·refine Mir.skip (Mir.toK (Mir.seqK (Mir.seqK (Mir.region fun e h => ?_))))
             simp only [↓reduceIte, reduceCtorEq, nA, nS, nM, nE, nL, nT, nB, iT, iN, iE, and_self, SR, SV, fld_31_1, sz_29, ag_29, und_29, ENMB]
             refine Mir.use (e := e) ?_ h
             refine Mir.cond rfl (fun hb1391 => ?_) (fun hb1391 => ?_)
             ·refine Mir.seqK (Mir.region fun e h => ?_)
              simp only [↓reduceIte, reduceCtorEq, nA, nS, nM, nE, nL, nT, nB, iT, iN, iE, and_self, SR, SV, zero_31, pl_31, sz_31, ENMB]
              refine Mir.use (e := e) ?_ h
              refine Mir.ret fun e h => ?_
              cases h
              simp only [↓reduceIte, reduceCtorEq, nA, nE, nL, and_self, and_true, true_and, SL, ENMB, Tryd.results21, ag_31, sz_31]
             ·refine Mir.skip (Mir.toK (Mir.seqK (Mir.region fun e h => ?_)))
              simp only [↓reduceIte, reduceCtorEq, nA, nS, nM, nE, nL, nT, nB, iT, iN, iE, and_self, SR, SV, ENMB]
              refine Mir.use (e := e) ?_ h
              refine Mir.seqK (Mir.joinO (fun v1056 : Int => [.d (.str a0), U, .ptr 0 0, U, U, .ptr 1 0, .d (.int .i64 v987.1), U, U, U, U, .d (.int .i64 v1056), U, U, U, U, U, U, U, U, U, U, U, U, U, U, U, U, U, U, U, U, U, U, U, U, U, U, U, U, U, U, U, U, U, U, U, U, U, U, U, U, U, U, U, U, U, U, U, U, U, U, U, U, U, U, U, U, U, U, U, U, U, U, U, U, U, U, U, U, U, U, U, U, U, U, U, U, U, U, U, U, U, U, U, U, U, U, U, U, U, U, U, U, U, U, U, U, U, U, U, U, U, U, U, U, U, U, U, U, U, U, U, U, U, U, U, U, U]) (fun v1056 : Int => ⟨[[.d (.bool false), .nil, .d (.str [])], [.d (.bool v103.2), .own 0 (List.map encApiWord v987.2.2), .d (.str [])]], [(65, v987.2.2.length)]⟩) (fun _ => rfl) ?_ ?_)
              ·refine Mir.block (Mir.loop (fun v1072 : Int => [.d (.str a0), U, .ptr 0 0, U, U, .ptr 1 0, .d (.int .i64 v987.1), U, U, U, U, .d (.int .i64 v1072), U, U, U, U, U, U, U, U, U, U, U, U, U, U, U, U, U, U, U, U, U, U, U, U, U, U, U, U, U, U, U, U, U, U, U, U, U, U, U, U, U, U, U, U, U, U, U, U, U, U, U, U, U, U, U, U, U, U, U, U, U, U, U, U, U, U, U, U, U, U, U, U, U, U, U, U, U, U, U, U, U, U, U, U, U, U, U, U, U, U, U, U, U, U, U, U, U, U, U, U, U, U, U, U, U, U, U, U, U, U, U, U, U, U, U, U, U]) (fun v1072 : Int => ⟨[[.d (.bool false), .nil, .d (.str [])], [.d (.bool v103.2), .own 0 (List.map encApiWord v987.2.2), .d (.str [])]], [(65, v987.2.2.length)]⟩) (fun _ => rfl) (by simp only [↓reduceIte, reduceCtorEq, nA, nE, nL, and_self, and_true, true_and, SL, ENMB]) (by simp only [↓reduceIte, reduceCtorEq, nA, nE, nL, and_self, and_true, true_and, SL, ENMB]) fun v1072 => Mir.seqK (Mir.seqK (Mir.joinO (fun v1075 : Bool => [.d (.str a0), U, .ptr 0 0, U, U, .ptr 1 0, .d (.int .i64 v987.1), U, U, U, U, .d (.int .i64 v1072), U, U, U, U, U, U, U, U, U, U, U, U, U, U, U, U, U, U, U, U, U, U, U, U, U, U, U, U, U, U, U, U, U, U, U, U, U, U, U, U, U, U, U, U, U, U, U, U, U, U, U, U, U, U, U, U, U, U, U, U, U, U, U, U, U, U, U, U, U, U, U, U, U, U, U, U, .d (.bool v1075), U, U, U, U, U, U, U, U, U, U, U, U, U, U, U, U, U, U, U, U, U, U, U, U, U, U, U, U, U, U, U, U, U, U, U, U, U, U, U, U]) (fun v1075 : Bool => ⟨[[.d (.bool false), .nil, .d (.str [])], [.d (.bool v103.2), .own 0 (List.map encApiWord v987.2.2), .d (.str [])]], [(65, v987.2.2.length)]⟩) (fun _ => rfl) ?_ ?_)))
               ·refine Mir.ite (fun hb1429 => ?_) (fun hb1429 => ?_)
                ·refine Mir.bind fun c1073 q1430 => ?_
                 replace q1430 := gt_ok q1430
                 refine Mir.bind fun y1074 hy1431 => Mir.region fun e h => ?_
                 simp only [↓reduceIte, reduceCtorEq, nA, nS, nM, nE, nL, nT, nB, iT, iN, iE, and_self, SR, SV, und_9, q1430, ENMB, hb1429]
                 refine SpecS.by (r41_number_spec hy1431) (by simp only [↓reduceIte, reduceCtorEq, nA, nE, nL, and_self, and_true, true_and, SL, ENMB, hb1429]) ?_
                 simp only [↓reduceIte, reduceCtorEq, nA, nS, nM, nE, nL, nT, nB, iT, iN, iE, and_self, SR, SV, ENMB, hb1429]
                 cases h
                 simp only [↓reduceIte, reduceCtorEq, nA, nE, nL, and_self, and_true, true_and, SL, ENMB, hb1429]
                ·refine Mir.region fun e h => ?_
                 simp only [↓reduceIte, reduceCtorEq, nA, nS, nM, nE, nL, nT, nB, iT, iN, iE, and_self, SR, SV, und_9, ENMB, hb1429]
                 cases h
                 simp only [↓reduceIte, reduceCtorEq, nA, nE, nL, and_self, and_true, true_and, SL, ENMB, hb1429]
               ·intro v1075
                refine Mir.toK (Mir.cond rfl (fun hb1433 => ?_) (fun hb1433 => ?_))
                ·refine Mir.skip (Mir.toK (Mir.block (Mir.region fun e h => ?_)))
                 simp only [↓reduceIte, reduceCtorEq, nA, nS, nM, nE, nL, nT, nB, iT, iN, iE, and_self, SR, SV, ENMB]
                 cases h
                 simp only [↓reduceIte, reduceCtorEq, nA, nE, nL, and_self, and_true, true_and, SL, ENMB, Tryd.results21, ag_31, sz_31]
                ·refine Mir.exit fun e h => ?_
                 cases h
                 simp only [↓reduceIte, reduceCtorEq, nA, nE, nL, and_self, and_true, true_and, SL, ENMB, Tryd.results21, ag_31, sz_31]
              ·intro v1056
               refine Mir.toK (Mir.seqK (Mir.bind fun s1076 q1434 => ?_))
               replace q1434 := cutL_ok q1434
               refine Mir.bind fun y1077 hy1435 => Mir.region fun e h => ?_
               simp only [↓reduceIte, reduceCtorEq, nA, nS, nM, nE, nL, nT, nB, iT, iN, iE, and_self, SR, SV, und_9, q1434, Nat.le_refl, and_true, true_and, dm, tm, ENMB]
               refine SpecS.by (r41_Value_spec hy1435) (by simp only [↓reduceIte, reduceCtorEq, nA, nE, nL, and_self, and_true, true_and, SL, ENMB]) ?_
               simp only [↓reduceIte, reduceCtorEq, nA, nS, nM, nE, nL, nT, nB, iT, iN, iE, and_self, SR, SV, ENMB]
               refine Mir.use (e := e) ?_ h
               refine Mir.seqK (Mir.seqK (Mir.region fun e h => ?_))
               simp only [↓reduceIte, reduceCtorEq, nA, nS, nM, nE, nL, nT, nB, iT, iN, iE, and_self, SR, SV, ENMB]
               refine Mir.use (e := e) ?_ h
               refine Mir.cond rfl (fun hb1437 => ?_) (fun hb1437 => ?_)
               ·refine Mir.seqK (Mir.region fun e h => ?_)
                simp only [↓reduceIte, reduceCtorEq, nA, nS, nM, nE, nL, nT, nB, iT, iN, iE, and_self, SR, SV, zero_31, pl_31, sz_31, ENMB]
                refine Mir.use (e := e) ?_ h
                refine Mir.ret fun e h => ?_
                cases h
                simp only [↓reduceIte, reduceCtorEq, nA, nE, nL, and_self, and_true, true_and, SL, ENMB, Tryd.results21, ag_31, sz_31]
               ·refine Mir.skip (Mir.toK (Mir.seqK (Mir.guard fun q1438 => Mir.regionD [] (by kernel_rfl) fun e h => ?_)))
                simp only [↓reduceIte, reduceCtorEq, nA, nS, nM, nE, nL, nT, nB, iT, iN, iE, and_self, SR, SV, sepL_nil, sepL_cons, sepV_ne, sepV_d, sepV_i, true_and, Bool.and_self, fld_31_1, sz_29, ag_29, und_9, q1378, zero_65, pl_65, und_29, sz_65, (nr rfl : okLen 2 = true), app_29, al_ApiWord, q1438, ENMB]
                refine Mir.use (e := e) ?_ h
                refine Mir.seqK (Mir.seqK (Mir.region fun e h => ?_))
                simp only [↓reduceIte, reduceCtorEq, nA, nS, nM, nE, nL, nT, nB, iT, iN, iE, and_self, SR, SV, und_9, ENMB]
                refine Mir.use (e := e) ?_ h
                refine Mir.cond rfl (fun hb1440 => ?_) (fun hb1440 => ?_)
                ·refine Mir.seqK (Mir.region fun e h => ?_)
                 simp only [↓reduceIte, reduceCtorEq, nA, nS, nM, nE, nL, nT, nB, iT, iN, iE, and_self, SR, SV, ag_31, sz_31, ENMB]
                 refine Mir.use (e := e) ?_ h
                 refine Mir.ret fun e h => ?_
                 cases h
                 simp only [↓reduceIte, reduceCtorEq, nA, nE, nL, and_self, and_true, true_and, SL, ENMB, Tryd.results21, ag_31, sz_31]
                ·refine Mir.skip (Mir.toK (Mir.seqK (Mir.seqK (Mir.bind fun c1078 q1441 => ?_))))
                 replace q1441 := gt_ok q1441
                 refine Mir.region fun e h => ?_
                 simp only [↓reduceIte, reduceCtorEq, nA, nS, nM, nE, nL, nT, nB, iT, iN, iE, and_self, SR, SV, und_9, q1441, ENMB]
                 refine Mir.use (e := e) ?_ h
                 refine Mir.cond rfl (fun hb1443 => ?_) (fun hb1443 => ?_)
                 ·refine Mir.seqK (Mir.region fun e h => ?_)
                  simp only [↓reduceIte, reduceCtorEq, nA, nS, nM, nE, nL, nT, nB, iT, iN, iE, and_self, SR, SV, zero_31, pl_31, sz_31, ENMB]
                  refine Mir.use (e := e) ?_ h
                  refine Mir.ret fun e h => ?_
                  cases h
                  simp only [↓reduceIte, reduceCtorEq, nA, nE, nL, and_self, and_true, true_and, SL, ENMB, Tryd.results21, ag_31, sz_31]
                 ·refine Mir.skip (Mir.toK (Mir.region fun e h => ?_))
                  simp only [↓reduceIte, reduceCtorEq, nA, nS, nM, nE, nL, nT, nB, iT, iN, iE, and_self, SR, SV, ENMB]
                  cases h
                  simp only [↓reduceIte, reduceCtorEq, nA, nE, nL, and_self, and_true, true_and, SL, ENMB, Tryd.results21, ag_31, sz_31]
        ·intro v1033
         refine Mir.toK (Mir.region fun e h => ?_)
         simp only [↓reduceIte, reduceCtorEq, nA, nS, nM, nE, nL, nT, nB, iT, iN, iE, and_self, SR, SV, ENMB]
         cases h
         simp only [↓reduceIte, reduceCtorEq, nA, nE, nL, and_self, and_true, true_and, SL, ENMB, Tryd.results21, ag_31, sz_31]
       ·refine Mir.exit fun e h => ?_
        cases h
        simp only [↓reduceIte, reduceCtorEq, nA, nE, nL, and_self, and_true, true_and, SL, ENMB, Tryd.results21, ag_31, sz_31]
     ·intro v799
      refine Mir.toK (Mir.seqK (Mir.region fun e h => ?_))
      simp only [↓reduceIte, reduceCtorEq, nA, nS, nM, nE, nL, nT, nB, iT, iN, iE, and_self, SR, SV, ag_31, sz_31, ENMB]
      refine Mir.use (e := e) ?_ h
      refine Mir.ret fun e h => ?_
      cases h
      simp only [↓reduceIte, reduceCtorEq, nA, nE, nL, and_self, and_true, true_and, SL, ENMB, Tryd.results21, ag_31, sz_31]

end Go.Proofs.YtijihbegfmkceaaDoor
