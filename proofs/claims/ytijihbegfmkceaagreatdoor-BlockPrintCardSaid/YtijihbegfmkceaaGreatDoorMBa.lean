/-
  Mirrors of functions, written by wip/mir.py.
-/
import Derived.Test.YtijihbegfmkceaaGreatDoorGf
import Derived.Test.YtijihbegfmkceaaGreatDoorTy
import Derived.Test.YtijihbegfmkceaaGreatDoorBu
import Derived.Test.YtijihbegfmkceaaGreatDoorGz
import Derived.Test.YtijihbegfmkceaaGreatDoorLb
namespace Go.Proofs.YtijihbegfmkceaaGreatDoor
open Go.RowKit
open Nat renaming reduceAdd → nA, reduceSub → nS, reduceMul → nM, reduceEqDiff → nE, reduceLeDiff → nL, reduceLT → nT, reduceBEq → nB
open Int renaming reduceLT → iT, reduceToNat → iN, reduceEq → iE
set_option linter.unusedVariables false
set_option linter.unusedSimpArgs false
set_option maxRecDepth 100000

structure ApiWord where
  Letter : Int
  Value : Int
  deriving DecidableEq
def encApiWord (x : ApiWord) : List D := [.int .u8 x.Letter, .int .i64 x.Value]
theorem al_ApiWord {l : List ApiWord} : (List.map encApiWord l).all (fun x => x.length == 2) = true := by simp [List.all_eq_true, encApiWord]
structure ApiBlock where
  Skip : Bool
  Words : (List ApiWord)
  Comment : (List UInt8)
  deriving DecidableEq
def encApiBlock (x : ApiBlock) : List D := [.bool x.Skip, .list (List.map encApiWord x.Words), .str x.Comment]
theorem al_ApiBlock {l : List ApiBlock} : (List.map encApiBlock l).all (fun x => x.length == 3) = true := by simp [List.all_eq_true, encApiBlock]
structure BlockParser where
  s : (List UInt8)
  at_ : Int
  b : ApiBlock
  deriving DecidableEq
def encBlockParser (x : BlockParser) : List D := [.str x.s, .int .i64 x.at_, .bool x.b.Skip, .list (List.map encApiWord x.b.Words), .str x.b.Comment]
theorem al_BlockParser {l : List BlockParser} : (List.map encBlockParser l).all (fun x => x.length == 5) = true := by simp [List.all_eq_true, encBlockParser]
theorem ENMB : type_of% (And.intro @encApiWord.eq_1 <| And.intro @encApiBlock.eq_1 <| @encBlockParser.eq_1) := And.intro @encApiWord.eq_1 <| And.intro @encApiBlock.eq_1 <| @encBlockParser.eq_1
def l41_example  : Option ApiBlock :=
  some (ApiBlock.mk true [ApiWord.mk 78 10000, ApiWord.mk 71 1000, ApiWord.mk 88 12500, ApiWord.mk 89 (-250)] [108, 97, 115, 116, 32, 112, 97, 115, 115])
theorem l41_example_spec  {y : ApiBlock} (h : l41_example = some y) : Spec gP 13 [] (.agg [.d (.bool y.Skip), .d (.list (List.map encApiWord y.Words)), .d (.str y.Comment)]) := by
  refine spec_mir Tryz.func13 rfl (by kernel_rfl) (by kernel_rfl) (fun y : ApiBlock => .agg [.d (.bool y.Skip), .d (.list (List.map encApiWord y.Words)), .d (.str y.Comment)]) ?_ h
  unfold l41_example
  simp only [List.replicate, List.length, nS, nA, Tryz.ntmps13, SV]
  refine Mir.seqK (Mir.region fun e h => ?_)
  simp only [↓reduceIte, reduceCtorEq, nA, nS, nM, nE, nL, nT, nB, iT, iN, iE, and_self, SR, SV, zero_36, ENMB]
  refine Mir.use (e := e) ?_ h
  refine Mir.seqK (Mir.region fun e h => ?_)
  simp only [↓reduceIte, reduceCtorEq, nA, nS, nM, nE, nL, nT, nB, iT, iN, iE, and_self, SR, SV, zero_58, pl_58, und_34, sz_58, (nr rfl : okLen 8 = true), zero_36, pl_36, sz_36, ENMB]
  refine Mir.use (e := e) ?_ h
  refine Mir.ret fun e h => ?_
  cases h
  simp only [↓reduceIte, reduceCtorEq, nA, nE, nL, and_self, and_true, true_and, SL, ENMB, Tryz.results13, ag_36, sz_36]

def bk_printable (a0 : Int) : Option Bool :=
  some ((decide (a0 ≥ 32)) && ((decide (a0 ≤ 126)) && ((a0 != 40) && (a0 != 41))))
theorem bk_printable_spec {a0 : Int} {y : Bool} (h : bk_printable a0 = some y) : Spec gP 39 [.d (.int .u8 a0)] (.d (.bool y)) := by
  refine spec_mir Tryz.func39 rfl (by kernel_rfl) (by kernel_rfl) (fun y : Bool => .d (.bool y)) ?_ h
  unfold bk_printable
  simp only [List.replicate, List.length, nS, nA, Tryz.ntmps39, SV]
  refine Mir.seqK (Mir.region fun e h => ?_)
  simp only [↓reduceIte, reduceCtorEq, nA, nS, nM, nE, nL, nT, nB, iT, iN, iE, and_self, SR, SV]
  refine Mir.use (e := e) ?_ h
  refine Mir.seqK (Mir.joinV [U, U, .d (.bool ((decide (a0 ≥ 32)) && ((decide (a0 ≤ 126)) && ((a0 != 40) && (a0 != 41))))), U, U, U, U, U, U, U, U, U, U, U, U, U, U] ⟨[], []⟩ rfl ?_ ?_)
  ·refine SWs.region ?_
   rcases Bool.eq_false_or_eq_true (decide (a0 ≥ 32)) with hb1 | hb1
   ·rcases Bool.eq_false_or_eq_true (decide (a0 ≤ 126)) with hb2 | hb2
    ·rcases Bool.eq_false_or_eq_true (a0 != 40) with hb3 | hb3
     ·simp only [↓reduceIte, reduceCtorEq, nA, nS, nM, nE, nL, nT, nB, iT, iN, iE, and_self, SR, SV, SL, PB, hb1, hb2, hb3]
     ·simp only [↓reduceIte, reduceCtorEq, nA, nS, nM, nE, nL, nT, nB, iT, iN, iE, and_self, SR, SV, SL, PB, hb1, hb2, hb3]
    ·simp only [↓reduceIte, reduceCtorEq, nA, nS, nM, nE, nL, nT, nB, iT, iN, iE, and_self, SR, SV, SL, PB, hb1, hb2]
   ·simp only [↓reduceIte, reduceCtorEq, nA, nS, nM, nE, nL, nT, nB, iT, iN, iE, and_self, SR, SV, SL, PB, hb1]
  ·refine Mir.toK (Mir.ret fun e h => ?_)
   cases h
   simp only [↓reduceIte, reduceCtorEq, nA, nE, nL, and_self, and_true, true_and, SL, Tryz.results39]

def bk_Valid (a0 : ApiBlock) : Option Int :=
  if ((decide ((a0.Words.length : Int) > 16)) || (decide ((a0.Comment.length : Int) > 100))) = true then
    some 1
  else
    bindX (guardO (okIdx a0.Words) (
        rangeX (fun (i127 : Nat) (e129 : ApiWord) (v128 : Unit) =>
          if ((decide (e129.Letter < 65)) || ((decide (e129.Letter > 90)) || ((decide (e129.Value > 1000000000000)) || (decide (e129.Value < (-1000000000000)))))) = true then
            some (.ret (.ret 1))
          else
            some (.go ())) (fun (v128 : Unit) => some (.go ())) a0.Words 0 ())) fun (v115 : Unit) =>
    bindX (guardO (okIdx (bytesI a0.Comment)) (
        rangeX (fun (i170 : Nat) (e172 : Int) (v171 : Unit) =>
          bindO (bk_printable e172) fun (y174 : Bool) =>
          if (!y174) = true then
            some (.ret (.ret 1))
          else
            some (.go ())) (fun (v171 : Unit) => some (.go ())) (bytesI a0.Comment) 0 ())) fun (v152 : Unit) =>
    some 0
theorem bk_Valid_spec {a0 : ApiBlock} {y : Int} (h : bk_Valid a0 = some y) : Spec gP 24 [.agg [.d (.bool a0.Skip), .d (.list (List.map encApiWord a0.Words)), .d (.str a0.Comment)]] (.d (.int .i64 y)) := by
  refine spec_mir Tryz.func24 rfl (by kernel_rfl) (by kernel_rfl) (fun y : Int => .d (.int .i64 y)) ?_ h
  unfold bk_Valid
  simp only [List.replicate, List.length, nS, nA, Tryz.ntmps24, SV]
  refine Mir.seqK (Mir.region fun e h => ?_)
  simp only [↓reduceIte, reduceCtorEq, nA, nS, nM, nE, nL, nT, nB, iT, iN, iE, and_self, SR, SV, ENMB, eInt]
  refine Mir.use (e := e) ?_ h
  refine Mir.seqK (Mir.seqK (Mir.joinV [U, .ptr 0 0, U, U, U, U, U, U, U, U, U, U, U, U, U, U, .d (.bool ((decide ((a0.Words.length : Int) > 16)) || (decide ((a0.Comment.length : Int) > 100)))), U, U, U, U, U, U, U, U, U, U, U, U, U, U, U, U, U, U, U, U, U, U, U, U, U, U, U, U, U, U, U, U, U, U, U, U, U, U] ⟨[[.d (.bool a0.Skip), .d (.list (List.map encApiWord a0.Words)), .d (.str a0.Comment)]], []⟩ rfl ?_ ?_))
  ·refine SWs.region ?_
   rcases Bool.eq_false_or_eq_true (decide ((a0.Words.length : Int) > 16)) with hb1 | hb1
   ·simp only [↓reduceIte, reduceCtorEq, nA, nS, nM, nE, nL, nT, nB, iT, iN, iE, and_self, SR, SV, SL, PB, fld_36_1, sz_34, ag_34, und_34, hb1, ENMB, eInt]
   ·simp only [↓reduceIte, reduceCtorEq, nA, nS, nM, nE, nL, nT, nB, iT, iN, iE, and_self, SR, SV, SL, PB, fld_36_1, sz_34, ag_34, und_34, fld_36_2, sz_9, ag_9, und_9, hb1, ENMB, eInt]
  ·refine Mir.toK (Mir.cond rfl (fun hb3 => ?_) (fun hb3 => ?_))
   ·refine Mir.seqK (Mir.region fun e h => ?_)
    simp only [↓reduceIte, reduceCtorEq, nA, nS, nM, nE, nL, nT, nB, iT, iN, iE, and_self, SR, SV, ENMB]
    refine Mir.use (e := e) ?_ h
    refine Mir.ret fun e h => ?_
    cases h
    simp only [↓reduceIte, reduceCtorEq, nA, nE, nL, and_self, and_true, true_and, SL, ENMB, Tryz.results24]
   ·refine Mir.skip (Mir.toK (Mir.seqK (Mir.seqK (Mir.region fun e h => ?_))))
    simp only [↓reduceIte, reduceCtorEq, nA, nS, nM, nE, nL, nT, nB, iT, iN, iE, and_self, SR, SV, fld_36_1, sz_34, ag_34, und_34, ENMB, eInt]
    refine Mir.use (e := e) ?_ h
    refine Mir.join (fun v115 : Unit => [U, .ptr 0 0, U, U, U, U, U, U, U, U, U, U, U, U, U, U, U, U, U, U, U, U, U, U, U, U, U, U, U, U, U, U, U, U, U, U, U, U, U, U, U, U, U, U, U, U, U, U, U, U, U, U, U, U, U]) (fun v115 : Unit => ⟨[[.d (.bool a0.Skip), .d (.list (List.map encApiWord a0.Words)), .d (.str a0.Comment)]], []⟩) (fun _ => rfl) ?_ ?_
    ·refine Mir.block (Mir.guard fun qg96 => Mir.range (fun (i127 : Nat) (v128 : Unit) => [U, .ptr 0 0, U, U, U, U, U, U, U, U, U, U, U, U, U, U, U, U, .d (.list (List.map encApiWord a0.Words)), .d (.int .i64 (a0.Words.length : Int)), .d (.int .i64 (i127 : Int)), U, U, U, U, U, U, U, U, U, U, U, U, U, U, U, U, U, U, U, U, U, U, U, U, U, U, U, U, U, U, U, U, U, U]) (fun (i127 : Nat) (v128 : Unit) => ⟨[[.d (.bool a0.Skip), .d (.list (List.map encApiWord a0.Words)), .d (.str a0.Comment)]], []⟩) qg96 (fun _ _ => rfl) (by simp only [↓reduceIte, reduceCtorEq, nA, nE, nL, and_self, and_true, true_and, SL, ENMB, (nr rfl : ((0 : Nat) : Int) = 0)]) (by simp only [↓reduceIte, reduceCtorEq, nA, nE, nL, and_self, and_true, true_and, SL, ENMB, (nr rfl : ((0 : Nat) : Int) = 0)]) ?_ ?_)
     ·intro i127 e129 v128 qr94
      refine Mir.seqK (Mir.region fun e h => ?_)
      simp only [↓reduceIte, reduceCtorEq, nA, nS, nM, nE, nL, nT, nB, iT, iN, iE, and_self, SR, SV, qr94, ENMB]
      refine Mir.use (e := e) ?_ h
      refine Mir.seqK (Mir.condT rfl (Mir.skip (Mir.toK (Mir.seqK (Mir.block (Mir.seqK (Mir.region fun e h => ?_)))))))
      simp only [↓reduceIte, reduceCtorEq, nA, nS, nM, nE, nL, nT, nB, iT, iN, iE, and_self, SR, SV, und_34, sz_58, qr94, Int.toNat_natCast, ag_58, zero_58, ENMB]
      refine Mir.use (e := e) ?_ h
      refine Mir.seqK (Mir.joinV [U, .ptr 0 0, U, U, U, U, U, U, U, U, U, U, U, U, U, U, U, U, .d (.list (List.map encApiWord a0.Words)), .d (.int .i64 (a0.Words.length : Int)), .d (.int .i64 (i127 : Int)), U, U, U, U, U, U, U, U, U, U, U, U, U, U, U, U, U, U, U, U, .d (.bool ((decide (e129.Letter < 65)) || ((decide (e129.Letter > 90)) || ((decide (e129.Value > 1000000000000)) || (decide (e129.Value < (-1000000000000))))))), U, U, U, U, U, U, U, U, U, U, U, U, U] ⟨[[.d (.bool a0.Skip), .d (.list (List.map encApiWord a0.Words)), .d (.str a0.Comment)], [.d (.int .u8 e129.Letter), .d (.int .i64 e129.Value)]], []⟩ rfl ?_ ?_)
      ·refine SWs.region ?_
       rcases Bool.eq_false_or_eq_true (decide (e129.Letter < 65)) with hb101 | hb101
       ·simp only [↓reduceIte, reduceCtorEq, nA, nS, nM, nE, nL, nT, nB, iT, iN, iE, and_self, SR, SV, SL, PB, fld_58_0, sz_5, ag_5, hb101, ENMB]
       ·rcases Bool.eq_false_or_eq_true (decide (e129.Letter > 90)) with hb102 | hb102
        ·simp only [↓reduceIte, reduceCtorEq, nA, nS, nM, nE, nL, nT, nB, iT, iN, iE, and_self, SR, SV, SL, PB, fld_58_0, sz_5, ag_5, hb101, hb102, ENMB]
        ·rcases Bool.eq_false_or_eq_true (decide (e129.Value > 1000000000000)) with hb103 | hb103
         ·simp only [↓reduceIte, reduceCtorEq, nA, nS, nM, nE, nL, nT, nB, iT, iN, iE, and_self, SR, SV, SL, PB, fld_58_0, sz_5, ag_5, fld_58_1, sz_2, ag_2, hb101, hb102, hb103, ENMB]
         ·simp only [↓reduceIte, reduceCtorEq, nA, nS, nM, nE, nL, nT, nB, iT, iN, iE, and_self, SR, SV, SL, PB, fld_58_0, sz_5, ag_5, fld_58_1, sz_2, ag_2, hb101, hb102, hb103, ENMB]
      ·refine Mir.toK (Mir.cond rfl (fun hb105 => ?_) (fun hb105 => ?_))
       ·refine Mir.seqK (Mir.region fun e h => ?_)
        simp only [↓reduceIte, reduceCtorEq, nA, nS, nM, nE, nL, nT, nB, iT, iN, iE, and_self, SR, SV, ENMB]
        refine Mir.use (e := e) ?_ h
        refine Mir.ret fun e h => ?_
        cases h
        simp only [↓reduceIte, reduceCtorEq, nA, nE, nL, and_self, and_true, true_and, SL, ENMB, Tryz.results24]
       ·refine Mir.skip (Mir.toB (Mir.toK (Mir.region fun e h => ?_)))
        simp only [↓reduceIte, reduceCtorEq, nA, nS, nM, nE, nL, nT, nB, iT, iN, iE, and_self, SR, SV, ENMB]
        cases h
        simp only [↓reduceIte, reduceCtorEq, nA, nE, nL, and_self, and_true, true_and, SL, ENMB, Tryz.results24, qr94]
     ·intro v128 qd95
      refine Mir.seqK (Mir.region fun e h => ?_)
      simp only [↓reduceIte, reduceCtorEq, nA, nS, nM, nE, nL, nT, nB, iT, iN, iE, and_self, SR, SV, qd95, ENMB]
      refine Mir.use (e := e) ?_ h
      refine Mir.seqK (Mir.condF rfl (Mir.exit fun e h => ?_))
      cases h
      simp only [↓reduceIte, reduceCtorEq, nA, nE, nL, and_self, and_true, true_and, SL, ENMB, Tryz.results24]
    ·intro v115
     refine Mir.toK (Mir.seqK (Mir.seqK (Mir.region fun e h => ?_)))
     simp only [↓reduceIte, reduceCtorEq, nA, nS, nM, nE, nL, nT, nB, iT, iN, iE, and_self, SR, SV, fld_36_2, sz_9, ag_9, und_9, und_46, und_5, bytes_enc, ENMB, eInt]
     refine Mir.use (e := e) ?_ h
     refine Mir.join (fun v152 : Unit => [U, U, U, U, U, U, U, U, U, U, U, U, U, U, U, U, U, U, U, U, U, U, U, U, U, U, U, U, U, U, U, U, U, U, U, U, U, U, U, U, U, U, U, U, U, U, U, U, U, U, U, U, U, U, U]) (fun v152 : Unit => ⟨[[.d (.bool a0.Skip), .d (.list (List.map encApiWord a0.Words)), .d (.str a0.Comment)]], []⟩) (fun _ => rfl) ?_ ?_
     ·refine Mir.block (Mir.guard fun qg170 => Mir.range (fun (i170 : Nat) (v171 : Unit) => [U, U, U, U, U, U, U, U, U, U, U, U, U, U, U, U, U, U, U, U, U, U, U, U, U, U, U, U, U, U, U, U, U, U, U, U, U, U, U, U, U, U, U, U, U, .d (.list (List.map (eInt .u8) (bytesI a0.Comment))), .d (.int .i64 ((bytesI a0.Comment).length : Int)), .d (.int .i64 (i170 : Int)), U, U, U, U, U, U, U]) (fun (i170 : Nat) (v171 : Unit) => ⟨[[.d (.bool a0.Skip), .d (.list (List.map encApiWord a0.Words)), .d (.str a0.Comment)]], []⟩) qg170 (fun _ _ => rfl) (by simp only [↓reduceIte, reduceCtorEq, nA, nE, nL, and_self, and_true, true_and, SL, ENMB, eInt, (nr rfl : ((0 : Nat) : Int) = 0)]) (by simp only [↓reduceIte, reduceCtorEq, nA, nE, nL, and_self, and_true, true_and, SL, ENMB, eInt, (nr rfl : ((0 : Nat) : Int) = 0)]) ?_ ?_)
      ·intro i170 e172 v171 qr168
       refine Mir.seqK (Mir.region fun e h => ?_)
       simp only [↓reduceIte, reduceCtorEq, nA, nS, nM, nE, nL, nT, nB, iT, iN, iE, and_self, SR, SV, qr168, ENMB, eInt]
       refine Mir.use (e := e) ?_ h
       refine Mir.seqK (Mir.condT rfl (Mir.skip (Mir.toK (Mir.seqK (Mir.block (Mir.seqK (Mir.region fun e h => ?_)))))))
       simp only [↓reduceIte, reduceCtorEq, nA, nS, nM, nE, nL, nT, nB, iT, iN, iE, and_self, SR, SV, und_46, sz_5, qr168, Int.toNat_natCast, ag_5, ENMB, eInt]
       refine Mir.use (e := e) ?_ h
       refine Mir.seqK (Mir.bind fun y174 hy173 => Mir.region fun e h => ?_)
       simp only [↓reduceIte, reduceCtorEq, nA, nS, nM, nE, nL, nT, nB, iT, iN, iE, and_self, SR, SV, ENMB, eInt]
       refine SpecS.by (bk_printable_spec hy173) (by simp only [↓reduceIte, reduceCtorEq, nA, nE, nL, and_self, and_true, true_and, SL, ENMB, eInt]) ?_
       simp only [↓reduceIte, reduceCtorEq, nA, nS, nM, nE, nL, nT, nB, iT, iN, iE, and_self, SR, SV, ENMB, eInt]
       refine Mir.use (e := e) ?_ h
       refine Mir.cond rfl (fun hb175 => ?_) (fun hb175 => ?_)
       ·refine Mir.seqK (Mir.region fun e h => ?_)
        simp only [↓reduceIte, reduceCtorEq, nA, nS, nM, nE, nL, nT, nB, iT, iN, iE, and_self, SR, SV, ENMB, eInt]
        refine Mir.use (e := e) ?_ h
        refine Mir.ret fun e h => ?_
        cases h
        simp only [↓reduceIte, reduceCtorEq, nA, nE, nL, and_self, and_true, true_and, SL, ENMB, eInt, Tryz.results24]
       ·refine Mir.skip (Mir.toB (Mir.toK (Mir.region fun e h => ?_)))
        simp only [↓reduceIte, reduceCtorEq, nA, nS, nM, nE, nL, nT, nB, iT, iN, iE, and_self, SR, SV, ENMB, eInt]
        cases h
        simp only [↓reduceIte, reduceCtorEq, nA, nE, nL, and_self, and_true, true_and, SL, ENMB, eInt, Tryz.results24, qr168]
      ·intro v171 qd169
       refine Mir.seqK (Mir.region fun e h => ?_)
       simp only [↓reduceIte, reduceCtorEq, nA, nS, nM, nE, nL, nT, nB, iT, iN, iE, and_self, SR, SV, qd169, ENMB, eInt]
       refine Mir.use (e := e) ?_ h
       refine Mir.seqK (Mir.condF rfl (Mir.exit fun e h => ?_))
       cases h
       simp only [↓reduceIte, reduceCtorEq, nA, nE, nL, and_self, and_true, true_and, SL, ENMB, eInt, Tryz.results24]
     ·intro v152
      refine Mir.toK (Mir.seqK (Mir.region fun e h => ?_))
      simp only [↓reduceIte, reduceCtorEq, nA, nS, nM, nE, nL, nT, nB, iT, iN, iE, and_self, SR, SV, ENMB, eInt]
      refine Mir.use (e := e) ?_ h
      refine Mir.ret fun e h => ?_
      cases h
      simp only [↓reduceIte, reduceCtorEq, nA, nE, nL, and_self, and_true, true_and, SL, ENMB, eInt, Tryz.results24]

def bk_Text (a0 : Int) : Option (List UInt8) :=
  bindO (if (decide (a0 < 0)) = true then
        some (IntKind.u64.wrap (0 - (IntKind.u64.wrap a0)), [45])
      else
        some (IntKind.u64.wrap a0, [])) fun (v101 : Int × (List UInt8)) =>
  bindO (strconv_FormatUint (IntKind.u64.wrap (Int.tdiv v101.1 1000)) 10) fun (y102 : (List UInt8)) =>
  guardO (okStr v101.2 y102) (
  bindO (if (decide ((Int.tmod v101.1 1000) > 0)) = true then
        bindO (strconv_FormatUint (IntKind.u64.wrap (1000 + (Int.tmod v101.1 1000))) 10) fun (y107 : (List UInt8)) =>
        bindO (cutF y107 1) fun (s108 : (List UInt8)) =>
        bindO (strings_TrimRight s108 [48]) fun (y109 : (List UInt8)) =>
        guardO (okStr [46] y109) (
        guardO (okStr (v101.2 ++ y102) ([46] ++ y109)) (
        some ((v101.2 ++ y102) ++ ([46] ++ y109))))
      else
        some (v101.2 ++ y102)) fun (v106 : (List UInt8)) =>
  some v106)
theorem bk_Text_spec {a0 : Int} {y : (List UInt8)} (h : bk_Text a0 = some y) : Spec gP 25 [.d (.int .i64 a0)] (.d (.str y)) := by
  refine spec_mir Tryz.func25 rfl (by kernel_rfl) (by kernel_rfl) (fun y : (List UInt8) => .d (.str y)) ?_ h
  unfold bk_Text
  simp only [List.replicate, List.length, nS, nA, Tryz.ntmps25, SV]
  refine Mir.seqK (Mir.region fun e h => ?_)
  simp only [↓reduceIte, reduceCtorEq, nA, nS, nM, nE, nL, nT, nB, iT, iN, iE, and_self, SR, SV]
  refine Mir.use (e := e) ?_ h
  refine Mir.seqK (Mir.region fun e h => ?_)
  simp only [↓reduceIte, reduceCtorEq, nA, nS, nM, nE, nL, nT, nB, iT, iN, iE, and_self, SR, SV, und_2, und_73]
  refine Mir.use (e := e) ?_ h
  refine Mir.seqK (Mir.seqK (Mir.region fun e h => ?_))
  simp only [↓reduceIte, reduceCtorEq, nA, nS, nM, nE, nL, nT, nB, iT, iN, iE, and_self, SR, SV]
  refine Mir.use (e := e) ?_ h
  refine Mir.joinO (fun v101 : Int × (List UInt8) => [U, U, U, .d (.int .u64 v101.1), .d (.str v101.2), U, U, U, U, U, U, U, U, U, U, U, U, U, U, U, U, U, U, U, U, U, U, U, U, U, U]) (fun v101 : Int × (List UInt8) => ⟨[], []⟩) (fun _ => rfl) ?_ ?_
  ·refine Mir.cond rfl (fun hb2 => ?_) (fun hb2 => ?_)
   ·refine Mir.region fun e h => ?_
    simp only [↓reduceIte, reduceCtorEq, nA, nS, nM, nE, nL, nT, nB, iT, iN, iE, and_self, SR, SV]
    cases h
    simp only [↓reduceIte, reduceCtorEq, nA, nE, nL, and_self, and_true, true_and, SL, Tryz.results25]
   ·refine Mir.skip fun e h => ?_
    cases h
    simp only [↓reduceIte, reduceCtorEq, nA, nE, nL, and_self, and_true, true_and, SL, Tryz.results25]
  ·intro v101
   refine Mir.toK (Mir.seqK (Mir.bind fun y102 hy3 => Mir.guard fun q4 => ?_))
   replace q4 := okStr_ok q4
   refine Mir.region fun e h => ?_
   simp only [↓reduceIte, reduceCtorEq, nA, nS, nM, nE, nL, nT, nB, iT, iN, iE, and_self, SR, SV]
   refine SpecS.by (strconv_FormatUint_spec hy3) (by simp only [↓reduceIte, reduceCtorEq, nA, nE, nL, and_self, and_true, true_and, SL]) ?_
   simp only [↓reduceIte, reduceCtorEq, nA, nS, nM, nE, nL, nT, nB, iT, iN, iE, and_self, SR, SV, q4]
   refine Mir.use (e := e) ?_ h
   refine Mir.seqK (Mir.seqK (Mir.region fun e h => ?_))
   simp only [↓reduceIte, reduceCtorEq, nA, nS, nM, nE, nL, nT, nB, iT, iN, iE, and_self, SR, SV]
   refine Mir.use (e := e) ?_ h
   refine Mir.seqK (Mir.region fun e h => ?_)
   simp only [↓reduceIte, reduceCtorEq, nA, nS, nM, nE, nL, nT, nB, iT, iN, iE, and_self, SR, SV]
   refine Mir.use (e := e) ?_ h
   refine Mir.joinO (fun v106 : (List UInt8) => [U, U, U, U, U, .d (.str v106), U, U, U, U, U, U, U, U, U, U, U, U, U, U, U, U, U, U, U, U, U, U, U, U, U]) (fun v106 : (List UInt8) => ⟨[], []⟩) (fun _ => rfl) ?_ ?_
   ·refine Mir.cond rfl (fun hb11 => ?_) (fun hb11 => ?_)
    ·refine Mir.bind fun y107 hy12 => Mir.bind fun s108 q13 => ?_
     replace q13 := cutF_ok q13
     simp only [Int.reduceToNat, Int.reduceLT, Nat.sub_zero, dp0] at q13
     refine Mir.bind fun y109 hy14 => Mir.guard fun q15 => ?_
     replace q15 := okStr_ok q15
     try simp only [lm, xNA, xCA, xAN, xLC, xLN, xAC, xAL, nA, Nat.zero_add] at q15
     refine Mir.guard fun q16 => ?_
     replace q16 := okStr_ok q16
     try simp only [lm, xNA, xCA, xAN, xLC, xLN, xAC, xAL, nA, Nat.zero_add] at q16
     refine Mir.region fun e h => ?_
     simp only [↓reduceIte, reduceCtorEq, nA, nS, nM, nE, nL, nT, nB, iT, iN, iE, and_self, SR, SV]
     refine SpecS.by (strconv_FormatUint_spec hy12) (by simp only [↓reduceIte, reduceCtorEq, nA, nE, nL, and_self, and_true, true_and, SL]) ?_
     simp only [↓reduceIte, reduceCtorEq, nA, nS, nM, nE, nL, nT, nB, iT, iN, iE, and_self, SR, SV, und_9, q13, Nat.le_refl, and_true, true_and, dm, tm]
     refine SpecS.by (strings_TrimRight_spec hy14) (by simp only [↓reduceIte, reduceCtorEq, nA, nE, nL, and_self, and_true, true_and, SL]) ?_
     simp only [↓reduceIte, reduceCtorEq, nA, nS, nM, nE, nL, nT, nB, iT, iN, iE, and_self, SR, SV, q15, q16]
     cases h
     simp only [↓reduceIte, reduceCtorEq, nA, nE, nL, and_self, and_true, true_and, SL, Tryz.results25]
    ·refine Mir.skip fun e h => ?_
     cases h
     simp only [↓reduceIte, reduceCtorEq, nA, nE, nL, and_self, and_true, true_and, SL, Tryz.results25]
   ·intro v106
    refine Mir.toK (Mir.seqK (Mir.region fun e h => ?_))
    simp only [↓reduceIte, reduceCtorEq, nA, nS, nM, nE, nL, nT, nB, iT, iN, iE, and_self, SR, SV]
    refine Mir.use (e := e) ?_ h
    refine Mir.ret fun e h => ?_
    cases h
    simp only [↓reduceIte, reduceCtorEq, nA, nE, nL, and_self, and_true, true_and, SL, Tryz.results25]

def bk_Format (a0 : ApiBlock) : Option ((List UInt8) × Int) :=
  bindO (bk_Valid a0) fun (y101 : Int) =>
  if (y101 != 0) = true then
    some ([], y101)
  else
    bindO (guardO (okIdx a0.Words) (
        rangeX (fun (i169 : Nat) (e171 : ApiWord) (v170 : (List (List UInt8))) =>
          bindO (bk_Text e171.Value) fun (y173 : (List UInt8)) =>
          guardO (okStr (runeS (IntKind.i32.wrap e171.Letter)) y173) (
          guardO (okLen (v170.length + 1)) (
          some (.go (v170 ++ [(runeS (IntKind.i32.wrap e171.Letter)) ++ y173]))))) (fun (v170 : (List (List UInt8))) => some v170) a0.Words 0 [])) fun (v151 : (List (List UInt8))) =>
    bindO (if (!(a0.Comment == [])) = true then
          guardO (okStr [40] a0.Comment) (
          guardO (okStr ([40] ++ a0.Comment) [41]) (
          guardO (okLen (v151.length + 1)) (
          some (v151 ++ [([40] ++ a0.Comment) ++ [41]]))))
        else
          some v151) fun (v174 : (List (List UInt8))) =>
    bindO (strings_Join v174 [32]) fun (y175 : (List UInt8)) =>
    bindO (if a0.Skip = true then
          guardO (okStr [47] y175) (
          some ([47] ++ y175))
        else
          some y175) fun (v176 : (List UInt8)) =>
    some (v176, 0)
theorem bk_Format_spec {a0 : ApiBlock} {y : (List UInt8) × Int} (h : bk_Format a0 = some y) : Spec gP 12 [.agg [.d (.bool a0.Skip), .d (.list (List.map encApiWord a0.Words)), .d (.str a0.Comment)]] (.tuple [.d (.str y.1), .d (.int .i64 y.2)]) := by
  refine spec_mir Tryz.func12 rfl (by kernel_rfl) (by kernel_rfl) (fun y : (List UInt8) × Int => .tuple [.d (.str y.1), .d (.int .i64 y.2)]) ?_ h
  unfold bk_Format
  simp only [List.replicate, List.length, nS, nA, Tryz.ntmps12, SV]
  refine Mir.seqK (Mir.region fun e h => ?_)
  simp only [↓reduceIte, reduceCtorEq, nA, nS, nM, nE, nL, nT, nB, iT, iN, iE, and_self, SR, SV, ENMB, eStr]
  refine Mir.use (e := e) ?_ h
  refine Mir.seqK (Mir.seqK (Mir.bind fun y101 hy1 => Mir.region fun e h => ?_))
  simp only [↓reduceIte, reduceCtorEq, nA, nS, nM, nE, nL, nT, nB, iT, iN, iE, and_self, SR, SV, ag_36, sz_36, ENMB, eStr]
  refine SpecS.by (bk_Valid_spec hy1) (by simp only [↓reduceIte, reduceCtorEq, nA, nE, nL, and_self, and_true, true_and, SL, ENMB, eStr]) ?_
  simp only [↓reduceIte, reduceCtorEq, nA, nS, nM, nE, nL, nT, nB, iT, iN, iE, and_self, SR, SV, ENMB, eStr]
  refine Mir.use (e := e) ?_ h
  refine Mir.seqK (Mir.region fun e h => ?_)
  simp only [↓reduceIte, reduceCtorEq, nA, nS, nM, nE, nL, nT, nB, iT, iN, iE, and_self, SR, SV, ENMB, eStr]
  refine Mir.use (e := e) ?_ h
  refine Mir.cond rfl (fun hb3 => ?_) (fun hb3 => ?_)
  ·refine Mir.seqK (Mir.region fun e h => ?_)
   simp only [↓reduceIte, reduceCtorEq, nA, nS, nM, nE, nL, nT, nB, iT, iN, iE, and_self, SR, SV, ENMB]
   refine Mir.use (e := e) ?_ h
   refine Mir.ret fun e h => ?_
   cases h
   simp only [↓reduceIte, reduceCtorEq, nA, nE, nL, and_self, and_true, true_and, SL, ENMB, Tryz.results12]
  ·refine Mir.skip (Mir.toK (Mir.seqK (Mir.region fun e h => ?_)))
   simp only [↓reduceIte, reduceCtorEq, nA, nS, nM, nE, nL, nT, nB, iT, iN, iE, and_self, SR, SV, ENMB, eStr]
   refine Mir.use (e := e) ?_ h
   refine Mir.seqK (Mir.seqK (Mir.region fun e h => ?_))
   simp only [↓reduceIte, reduceCtorEq, nA, nS, nM, nE, nL, nT, nB, iT, iN, iE, and_self, SR, SV, fld_36_1, sz_34, ag_34, und_34, ENMB, eStr]
   refine Mir.use (e := e) ?_ h
   refine Mir.gh [.slot 5 9] rfl (Mir.joinO (fun v151 : (List (List UInt8)) => [U, .ptr 0 0, U, U, U, .own 0 (List.map eStr v151), U, U, U, U, U, U, U, U, U, U, U, U, U, U, U, U, U, U, U, U, U, U, U, U, U, U, U, U, U, U, U, U, U, U, U, U, U, U, U, U, U, U, U, U]) (fun v151 : (List (List UInt8)) => ⟨[[.d (.bool a0.Skip), .d (.list (List.map encApiWord a0.Words)), .d (.str a0.Comment)]], [(9, v151.length)]⟩) (fun _ => rfl) ?_ ?_)
   ·refine Mir.block (Mir.guard fun qg116 => Mir.range (fun (i169 : Nat) (v170 : (List (List UInt8))) => [U, .ptr 0 0, U, U, U, .own 0 (List.map eStr v170), U, U, U, U, U, U, U, U, U, .d (.list (List.map encApiWord a0.Words)), .d (.int .i64 (a0.Words.length : Int)), .d (.int .i64 (i169 : Int)), U, U, U, U, U, U, U, U, U, U, U, U, U, U, U, U, U, U, U, U, U, U, U, U, U, U, U, U, U, U, U, U]) (fun (i169 : Nat) (v170 : (List (List UInt8))) => ⟨[[.d (.bool a0.Skip), .d (.list (List.map encApiWord a0.Words)), .d (.str a0.Comment)]], [(9, v170.length)]⟩) qg116 (fun _ _ => rfl) (by simp only [↓reduceIte, reduceCtorEq, nA, nE, nL, and_self, and_true, true_and, SL, ENMB, eStr, (nr rfl : ((0 : Nat) : Int) = 0)]) (by simp only [↓reduceIte, reduceCtorEq, nA, nE, nL, and_self, and_true, true_and, SL, ENMB, eStr, (nr rfl : ((0 : Nat) : Int) = 0)]) ?_ ?_)
    ·intro i169 e171 v170 qr114
     refine Mir.seqK (Mir.region fun e h => ?_)
     simp only [↓reduceIte, reduceCtorEq, nA, nS, nM, nE, nL, nT, nB, iT, iN, iE, and_self, SR, SV, qr114, ENMB, eStr]
     refine Mir.use (e := e) ?_ h
     refine Mir.seqK (Mir.condT rfl (Mir.skip (Mir.toK (Mir.seqK (Mir.block (Mir.seqK (Mir.region fun e h => ?_)))))))
     simp only [↓reduceIte, reduceCtorEq, nA, nS, nM, nE, nL, nT, nB, iT, iN, iE, and_self, SR, SV, und_34, sz_58, qr114, Int.toNat_natCast, ag_58, zero_58, ENMB, eStr]
     refine Mir.use (e := e) ?_ h
     refine Mir.bind fun y173 hy120 => Mir.guard fun q121 => ?_
     replace q121 := okStr_ok q121
     refine Mir.guard fun q122 => Mir.regionD [] (by kernel_rfl) fun e h => ?_
     simp only [↓reduceIte, reduceCtorEq, nA, nS, nM, nE, nL, nT, nB, iT, iN, iE, and_self, SR, SV, sepL_nil, sepL_cons, sepV_ne, sepV_d, sepV_i, true_and, Bool.and_self, fld_58_0, sz_5, ag_5, und_5, und_21, und_9, rune_enc, fld_58_1, sz_2, ag_2, ENMB, eStr]
     refine Spec.by (bk_Text_spec hy120) (by simp only [↓reduceIte, reduceCtorEq, nA, nE, nL, and_self, and_true, true_and, SL, ENMB, eStr]) ?_
     simp only [↓reduceIte, reduceCtorEq, nA, nS, nM, nE, nL, nT, nB, iT, iN, iE, and_self, SR, SV, sepL_nil, sepL_cons, sepV_ne, sepV_d, sepV_i, true_and, Bool.and_self, q121, und_56, sz_9, zero_9, (nr rfl : okLen 1 = true), app_56, al_eStr, q122, ENMB, eStr]
     refine Mir.use (e := e) ?_ h
     refine Mir.region fun e h => ?_
     simp only [↓reduceIte, reduceCtorEq, nA, nS, nM, nE, nL, nT, nB, iT, iN, iE, and_self, SR, SV, ENMB, eStr]
     cases h
     simp only [↓reduceIte, reduceCtorEq, nA, nE, nL, and_self, and_true, true_and, SL, ENMB, eStr, Tryz.results12, qr114]
    ·intro v170 qd115
     refine Mir.seqK (Mir.region fun e h => ?_)
     simp only [↓reduceIte, reduceCtorEq, nA, nS, nM, nE, nL, nT, nB, iT, iN, iE, and_self, SR, SV, qd115, ENMB, eStr]
     refine Mir.use (e := e) ?_ h
     refine Mir.seqK (Mir.condF rfl (Mir.exit fun e h => ?_))
     cases h
     simp only [↓reduceIte, reduceCtorEq, nA, nE, nL, and_self, and_true, true_and, SL, ENMB, eStr, Tryz.results12]
   ·intro v151
    refine Mir.toK (Mir.seqK (Mir.seqK (Mir.region fun e h => ?_)))
    simp only [↓reduceIte, reduceCtorEq, nA, nS, nM, nE, nL, nT, nB, iT, iN, iE, and_self, SR, SV, fld_36_2, sz_9, ag_9, ENMB, eStr]
    refine Mir.use (e := e) ?_ h
    refine Mir.joinO (fun v174 : (List (List UInt8)) => [U, .ptr 0 0, U, U, U, .own 0 (List.map eStr v174), U, U, U, U, U, U, U, U, U, U, U, U, U, U, U, U, U, U, U, U, U, U, U, U, U, U, U, U, U, U, U, U, U, U, U, U, U, U, U, U, U, U, U, U]) (fun v174 : (List (List UInt8)) => ⟨[[.d (.bool a0.Skip), .d (.list (List.map encApiWord a0.Words)), .d (.str a0.Comment)]], [(9, v174.length)]⟩) (fun _ => rfl) ?_ ?_
    ·refine Mir.cond rfl (fun hb127 => ?_) (fun hb127 => ?_)
     ·refine Mir.guard fun q128 => ?_
      replace q128 := okStr_ok q128
      try simp only [lm, xNA, xCA, xAN, xLC, xLN, xAC, xAL, nA, Nat.zero_add] at q128
      refine Mir.guard fun q129 => ?_
      replace q129 := okStr_ok q129
      try simp only [lm, xNA, xCA, xAN, xLC, xLN, xAC, xAL, nA, Nat.zero_add] at q129
      refine Mir.guard fun q130 => Mir.region fun e h => ?_
      simp only [↓reduceIte, reduceCtorEq, nA, nS, nM, nE, nL, nT, nB, iT, iN, iE, and_self, SR, SV, fld_36_2, sz_9, ag_9, q128, q129, und_56, zero_9, (nr rfl : okLen 1 = true), app_56, al_eStr, q130, ENMB, eStr]
      cases h
      simp only [↓reduceIte, reduceCtorEq, nA, nE, nL, and_self, and_true, true_and, SL, ENMB, eStr, Tryz.results12]
     ·refine Mir.skip fun e h => ?_
      cases h
      simp only [↓reduceIte, reduceCtorEq, nA, nE, nL, and_self, and_true, true_and, SL, ENMB, eStr, Tryz.results12]
    ·intro v174
     refine Mir.toK (Mir.seqK (Mir.bind fun y175 hy131 => Mir.region fun e h => ?_))
     simp only [↓reduceIte, reduceCtorEq, nA, nS, nM, nE, nL, nT, nB, iT, iN, iE, and_self, SR, SV, ENMB, eStr]
     refine SpecS.by (strings_Join_spec hy131) (by simp only [↓reduceIte, reduceCtorEq, nA, nE, nL, and_self, and_true, true_and, SL, ENMB, eStr]) ?_
     simp only [↓reduceIte, reduceCtorEq, nA, nS, nM, nE, nL, nT, nB, iT, iN, iE, and_self, SR, SV, ENMB, eStr]
     refine Mir.use (e := e) ?_ h
     refine Mir.seqK (Mir.seqK (Mir.region fun e h => ?_))
     simp only [↓reduceIte, reduceCtorEq, nA, nS, nM, nE, nL, nT, nB, iT, iN, iE, and_self, SR, SV, fld_36_0, sz_4, ag_4, ENMB, eStr]
     refine Mir.use (e := e) ?_ h
     refine Mir.joinO (fun v176 : (List UInt8) => [U, U, U, U, U, U, U, U, .d (.str v176), U, U, U, U, U, U, U, U, U, U, U, U, U, U, U, U, U, U, U, U, U, U, U, U, U, U, U, U, U, U, U, U, U, U, U, U, U, U, U, U, U]) (fun v176 : (List UInt8) => ⟨[[.d (.bool a0.Skip), .d (.list (List.map encApiWord a0.Words)), .d (.str a0.Comment)]], [(9, v174.length)]⟩) (fun _ => rfl) ?_ ?_
     ·refine Mir.cond rfl (fun hb134 => ?_) (fun hb134 => ?_)
      ·refine Mir.guard fun q135 => ?_
       replace q135 := okStr_ok q135
       try simp only [lm, xNA, xCA, xAN, xLC, xLN, xAC, xAL, nA, Nat.zero_add] at q135
       refine Mir.region fun e h => ?_
       simp only [↓reduceIte, reduceCtorEq, nA, nS, nM, nE, nL, nT, nB, iT, iN, iE, and_self, SR, SV, q135, ENMB, eStr]
       cases h
       simp only [↓reduceIte, reduceCtorEq, nA, nE, nL, and_self, and_true, true_and, SL, ENMB, eStr, Tryz.results12]
      ·refine Mir.skip fun e h => ?_
       cases h
       simp only [↓reduceIte, reduceCtorEq, nA, nE, nL, and_self, and_true, true_and, SL, ENMB, eStr, Tryz.results12]
     ·intro v176
      refine Mir.toK (Mir.seqK (Mir.region fun e h => ?_))
      simp only [↓reduceIte, reduceCtorEq, nA, nS, nM, nE, nL, nT, nB, iT, iN, iE, and_self, SR, SV, ENMB, eStr]
      refine Mir.use (e := e) ?_ h
      refine Mir.ret fun e h => ?_
      cases h
      simp only [↓reduceIte, reduceCtorEq, nA, nE, nL, and_self, and_true, true_and, SL, ENMB, eStr, Tryz.results12]

def stringslite_HasPrefix (a0 : (List UInt8)) (a1 : (List UInt8)) : Option Bool :=
  bindO (if (decide ((a0.length : Int) ≥ (a1.length : Int))) = true then
        bindO (cutT a0 (a1.length : Int)) fun (s101 : (List UInt8)) =>
        some (s101 == a1)
      else
        some false) fun (v102 : Bool) =>
  some v102
theorem stringslite_HasPrefix_spec {a0 : (List UInt8)} {a1 : (List UInt8)} {y : Bool} (h : stringslite_HasPrefix a0 a1 = some y) : Spec gP 94 [.d (.str a0), .d (.str a1)] (.d (.bool y)) := by
  refine spec_mir Tryz.func94 rfl (by kernel_rfl) (by kernel_rfl) (fun y : Bool => .d (.bool y)) ?_ h
  unfold stringslite_HasPrefix
  simp only [List.replicate, List.length, nS, nA, Tryz.ntmps94, SV]
  refine Mir.seqK (Mir.region fun e h => ?_)
  simp only [↓reduceIte, reduceCtorEq, nA, nS, nM, nE, nL, nT, nB, iT, iN, iE, and_self, SR, SV]
  refine Mir.use (e := e) ?_ h
  refine Mir.seqK (Mir.joinO (fun v102 : Bool => [U, U, U, U, .d (.bool v102), U, U, U, U, U, U, U, U, U, U, U, U, U]) (fun v102 : Bool => ⟨[], []⟩) (fun _ => rfl) ?_ ?_)
  ·refine Mir.ite (fun hb1 => ?_) (fun hb1 => ?_)
   ·refine Mir.bind fun s101 q2 => ?_
    replace q2 := cutT_ok q2
    refine Mir.region fun e h => ?_
    simp only [↓reduceIte, reduceCtorEq, nA, nS, nM, nE, nL, nT, nB, iT, iN, iE, and_self, SR, SV, und_9, q2, Nat.le_refl, and_true, true_and, dm, tm, hb1]
    cases h
    simp only [↓reduceIte, reduceCtorEq, nA, nE, nL, and_self, and_true, true_and, SL, hb1]
   ·refine Mir.region fun e h => ?_
    simp only [↓reduceIte, reduceCtorEq, nA, nS, nM, nE, nL, nT, nB, iT, iN, iE, and_self, SR, SV, und_9, hb1]
    cases h
    simp only [↓reduceIte, reduceCtorEq, nA, nE, nL, and_self, and_true, true_and, SL, hb1]
  ·intro v102
   refine Mir.toK (Mir.ret fun e h => ?_)
   cases h
   simp only [↓reduceIte, reduceCtorEq, nA, nE, nL, and_self, and_true, true_and, SL, Tryz.results94]

def stringslite_CutPrefix (a0 : (List UInt8)) (a1 : (List UInt8)) : Option ((List UInt8) × Bool) :=
  bindO (stringslite_HasPrefix a0 a1) fun (y101 : Bool) =>
  if (!y101) = true then
    some (a0, false)
  else
    bindO (cutF a0 (a1.length : Int)) fun (s102 : (List UInt8)) =>
    some (s102, true)
theorem stringslite_CutPrefix_spec {a0 : (List UInt8)} {a1 : (List UInt8)} {y : (List UInt8) × Bool} (h : stringslite_CutPrefix a0 a1 = some y) : Spec gP 85 [.d (.str a0), .d (.str a1)] (.tuple [.d (.str y.1), .d (.bool y.2)]) := by
  refine spec_mir Tryz.func85 rfl (by kernel_rfl) (by kernel_rfl) (fun y : (List UInt8) × Bool => .tuple [.d (.str y.1), .d (.bool y.2)]) ?_ h
  unfold stringslite_CutPrefix
  simp only [List.replicate, List.length, nS, nA, Tryz.ntmps85, SV]
  refine Mir.seqK (Mir.region fun e h => ?_)
  simp only [↓reduceIte, reduceCtorEq, nA, nS, nM, nE, nL, nT, nB, iT, iN, iE, and_self, SR, SV]
  refine Mir.use (e := e) ?_ h
  refine Mir.seqK (Mir.seqK (Mir.bind fun y101 hy1 => Mir.region fun e h => ?_))
  simp only [↓reduceIte, reduceCtorEq, nA, nS, nM, nE, nL, nT, nB, iT, iN, iE, and_self, SR, SV]
  refine SpecS.by (stringslite_HasPrefix_spec hy1) (by simp only [↓reduceIte, reduceCtorEq, nA, nE, nL, and_self, and_true, true_and, SL]) ?_
  simp only [↓reduceIte, reduceCtorEq, nA, nS, nM, nE, nL, nT, nB, iT, iN, iE, and_self, SR, SV]
  refine Mir.use (e := e) ?_ h
  refine Mir.cond rfl (fun hb3 => ?_) (fun hb3 => ?_)
  ·refine Mir.seqK (Mir.region fun e h => ?_)
   simp only [↓reduceIte, reduceCtorEq, nA, nS, nM, nE, nL, nT, nB, iT, iN, iE, and_self, SR, SV]
   refine Mir.use (e := e) ?_ h
   refine Mir.ret fun e h => ?_
   cases h
   simp only [↓reduceIte, reduceCtorEq, nA, nE, nL, and_self, and_true, true_and, SL, Tryz.results85]
  ·refine Mir.skip (Mir.toK (Mir.seqK (Mir.bind fun s102 q4 => ?_)))
   replace q4 := cutF_ok q4
   refine Mir.region fun e h => ?_
   simp only [↓reduceIte, reduceCtorEq, nA, nS, nM, nE, nL, nT, nB, iT, iN, iE, and_self, SR, SV, und_9, q4, Nat.le_refl, and_true, true_and, dm, tm]
   refine Mir.use (e := e) ?_ h
   refine Mir.ret fun e h => ?_
   cases h
   simp only [↓reduceIte, reduceCtorEq, nA, nE, nL, and_self, and_true, true_and, SL, Tryz.results85]

def strings_CutPrefix (a0 : (List UInt8)) (a1 : (List UInt8)) : Option ((List UInt8) × Bool) :=
  bindO (stringslite_CutPrefix a0 a1) fun (y101 : (List UInt8) × Bool) =>
  some (y101.1, y101.2)
theorem strings_CutPrefix_spec {a0 : (List UInt8)} {a1 : (List UInt8)} {y : (List UInt8) × Bool} (h : strings_CutPrefix a0 a1 = some y) : Spec gP 72 [.d (.str a0), .d (.str a1)] (.tuple [.d (.str y.1), .d (.bool y.2)]) := by
  refine spec_mir Tryz.func72 rfl (by kernel_rfl) (by kernel_rfl) (fun y : (List UInt8) × Bool => .tuple [.d (.str y.1), .d (.bool y.2)]) ?_ h
  unfold strings_CutPrefix
  simp only [List.replicate, List.length, nS, nA, Tryz.ntmps72, SV]
  refine Mir.seqK (Mir.region fun e h => ?_)
  simp only [↓reduceIte, reduceCtorEq, nA, nS, nM, nE, nL, nT, nB, iT, iN, iE, and_self, SR, SV]
  refine Mir.use (e := e) ?_ h
  refine Mir.seqK (Mir.bind fun y101 hy1 => Mir.region fun e h => ?_)
  simp only [↓reduceIte, reduceCtorEq, nA, nS, nM, nE, nL, nT, nB, iT, iN, iE, and_self, SR, SV]
  refine SpecS.by (stringslite_CutPrefix_spec hy1) (by simp only [↓reduceIte, reduceCtorEq, nA, nE, nL, and_self, and_true, true_and, SL]) ?_
  simp only [↓reduceIte, reduceCtorEq, nA, nS, nM, nE, nL, nT, nB, iT, iN, iE, and_self, SR, SV]
  refine Mir.use (e := e) ?_ h
  refine Mir.ret fun e h => ?_
  cases h
  simp only [↓reduceIte, reduceCtorEq, nA, nE, nL, and_self, and_true, true_and, SL, Tryz.results72]

def stringslite_Index (a0 : (List UInt8)) (a1 : (List UInt8)) : Option Int :=
  if (((a1.length : Int) == 0) || (a1 == a0)) = true then
    some 0
  else
    if ((a1.length : Int) == 1) = true then
      bindO (gt a1 0) fun (c107 : UInt8) =>
      bindO (stringslite_IndexByte a0 (c107.toNat : Int)) fun (y108 : Int) =>
      some y108
    else
      if (decide ((a1.length : Int) ≥ (a0.length : Int))) = true then
        some (-1)
      else
        none
theorem stringslite_Index_spec {a0 : (List UInt8)} {a1 : (List UInt8)} {y : Int} (h : stringslite_Index a0 a1 = some y) : Spec gP 47 [.d (.str a0), .d (.str a1)] (.d (.int .i64 y)) := by
  refine spec_mir Tryz.func47 rfl (by kernel_rfl) (by kernel_rfl) (fun y : Int => .d (.int .i64 y)) ?_ h
  unfold stringslite_Index
  simp only [List.replicate, List.length, nS, nA, Tryz.ntmps47, SV]
  refine Mir.seqK (Mir.region fun e h => ?_)
  simp only [↓reduceIte, reduceCtorEq, nA, nS, nM, nE, nL, nT, nB, iT, iN, iE, and_self, SR, SV]
  refine Mir.use (e := e) ?_ h
  refine Mir.seqK (Mir.region fun e h => ?_)
  simp only [↓reduceIte, reduceCtorEq, nA, nS, nM, nE, nL, nT, nB, iT, iN, iE, and_self, SR, SV, und_9]
  refine Mir.use (e := e) ?_ h
  refine Mir.seqK (Mir.block (Mir.seqK (Mir.joinV [.d (.str a0), .d (.str a1), U, U, U, .d (.int .i64 (a1.length : Int)), U, U, U, U, U, U, U, U, U, U, .d (.bool (((a1.length : Int) == 0) || (a1 == a0))), U, U, U, U, U, U, U, U, U, U, U, U, U, U, U, U, U, U, U, U, U, U, U, U, U, U, U, U, U, U, U, U, U, U, U, U, U, U, U, U, U, U, U, U, U, U, U, U, U, U, U, U, U, U, U, U, U, U, U, U, U, U, U, U, U, U, U, U, U, U, U, U, U, U, U, U, U, U, U, U, U, U, U, U, U, U, U, U, U, U, U, U, U, U, U, U, U, U, U, U, U, U, U, U, U, U, U, U, U, U, U, U, U, U, U, U, U, U, U, U, U, U, U, U, U, U] ⟨[], []⟩ rfl ?_ ?_)))
  ·refine SWs.region ?_
   rcases Bool.eq_false_or_eq_true ((a1.length : Int) == 0) with hb7 | hb7
   ·simp only [↓reduceIte, reduceCtorEq, nA, nS, nM, nE, nL, nT, nB, iT, iN, iE, and_self, SR, SV, SL, PB, hb7]
   ·simp only [↓reduceIte, reduceCtorEq, nA, nS, nM, nE, nL, nT, nB, iT, iN, iE, and_self, SR, SV, SL, PB, hb7]
  ·refine Mir.toK (Mir.cond rfl (fun hb13 => ?_) (fun hb13 => ?_))
   ·refine Mir.seqK (Mir.region fun e h => ?_)
    simp only [↓reduceIte, reduceCtorEq, nA, nS, nM, nE, nL, nT, nB, iT, iN, iE, and_self, SR, SV]
    refine Mir.use (e := e) ?_ h
    refine Mir.ret fun e h => ?_
    cases h
    simp only [↓reduceIte, reduceCtorEq, nA, nE, nL, and_self, and_true, true_and, SL, Tryz.results47]
   ·refine Mir.seqK (Mir.region fun e h => ?_)
    simp only [↓reduceIte, reduceCtorEq, nA, nS, nM, nE, nL, nT, nB, iT, iN, iE, and_self, SR, SV]
    refine Mir.use (e := e) ?_ h
    refine Mir.cond rfl (fun hb18 => ?_) (fun hb18 => ?_)
    ·refine Mir.seqK (Mir.bind fun c107 q19 => ?_)
     replace q19 := gt_ok q19
     simp only [Int.reduceToNat, Int.reduceLT, Nat.sub_zero, dp0] at q19
     refine Mir.bind fun y108 hy20 => Mir.region fun e h => ?_
     simp only [↓reduceIte, reduceCtorEq, nA, nS, nM, nE, nL, nT, nB, iT, iN, iE, and_self, SR, SV, und_9, q19]
     refine SpecS.by (stringslite_IndexByte_spec hy20) (by simp only [↓reduceIte, reduceCtorEq, nA, nE, nL, and_self, and_true, true_and, SL]) ?_
     simp only [↓reduceIte, reduceCtorEq, nA, nS, nM, nE, nL, nT, nB, iT, iN, iE, and_self, SR, SV]
     refine Mir.use (e := e) ?_ h
     refine Mir.ret fun e h => ?_
     cases h
     simp only [↓reduceIte, reduceCtorEq, nA, nE, nL, and_self, and_true, true_and, SL, Tryz.results47]
    ·refine Mir.seqK (Mir.region fun e h => ?_)
     simp only [↓reduceIte, reduceCtorEq, nA, nS, nM, nE, nL, nT, nB, iT, iN, iE, and_self, SR, SV, und_9]
     refine Mir.use (e := e) ?_ h
     refine Mir.cond rfl (fun hb22 => ?_) (fun hb22 => ?_)
     ·refine Mir.seqK (Mir.region fun e h => ?_)
      simp only [↓reduceIte, reduceCtorEq, nA, nS, nM, nE, nL, nT, nB, iT, iN, iE, and_self, SR, SV]
      refine Mir.use (e := e) ?_ h
      refine Mir.ret fun e h => ?_
      cases h
      simp only [↓reduceIte, reduceCtorEq, nA, nE, nL, and_self, and_true, true_and, SL, Tryz.results47]
     ·exact Mir.no

def stringslite_Cut (a0 : (List UInt8)) (a1 : (List UInt8)) : Option ((List UInt8) × (List UInt8) × Bool) :=
  bindO (stringslite_Index a0 a1) fun (y101 : Int) =>
  if (decide (y101 ≥ 0)) = true then
    bindO (cutT a0 y101) fun (s104 : (List UInt8)) =>
    bindO (cutF a0 (IntKind.i64.wrap (y101 + (a1.length : Int)))) fun (s105 : (List UInt8)) =>
    some (s104, s105, true)
  else
    some (a0, [], false)
theorem stringslite_Cut_spec {a0 : (List UInt8)} {a1 : (List UInt8)} {y : (List UInt8) × (List UInt8) × Bool} (h : stringslite_Cut a0 a1 = some y) : Spec gP 32 [.d (.str a0), .d (.str a1)] (.tuple [.d (.str y.1), .d (.str y.2.1), .d (.bool y.2.2)]) := by
  refine spec_mir Tryz.func32 rfl (by kernel_rfl) (by kernel_rfl) (fun y : (List UInt8) × (List UInt8) × Bool => .tuple [.d (.str y.1), .d (.str y.2.1), .d (.bool y.2.2)]) ?_ h
  unfold stringslite_Cut
  simp only [List.replicate, List.length, nS, nA, Tryz.ntmps32, SV]
  refine Mir.seqK (Mir.region fun e h => ?_)
  simp only [↓reduceIte, reduceCtorEq, nA, nS, nM, nE, nL, nT, nB, iT, iN, iE, and_self, SR, SV]
  refine Mir.use (e := e) ?_ h
  refine Mir.seqK (Mir.seqK (Mir.bind fun y101 hy1 => Mir.region fun e h => ?_))
  simp only [↓reduceIte, reduceCtorEq, nA, nS, nM, nE, nL, nT, nB, iT, iN, iE, and_self, SR, SV]
  refine SpecS.by (stringslite_Index_spec hy1) (by simp only [↓reduceIte, reduceCtorEq, nA, nE, nL, and_self, and_true, true_and, SL]) ?_
  simp only [↓reduceIte, reduceCtorEq, nA, nS, nM, nE, nL, nT, nB, iT, iN, iE, and_self, SR, SV]
  refine Mir.use (e := e) ?_ h
  refine Mir.seqK (Mir.region fun e h => ?_)
  simp only [↓reduceIte, reduceCtorEq, nA, nS, nM, nE, nL, nT, nB, iT, iN, iE, and_self, SR, SV]
  refine Mir.use (e := e) ?_ h
  refine Mir.cond rfl (fun hb5 => ?_) (fun hb5 => ?_)
  ·refine Mir.seqK (Mir.bind fun s104 q6 => ?_)
   replace q6 := cutT_ok q6
   refine Mir.bind fun s105 q7 => ?_
   replace q7 := cutF_ok q7
   refine Mir.regionD [] (by kernel_rfl) fun e h => ?_
   simp only [↓reduceIte, reduceCtorEq, nA, nS, nM, nE, nL, nT, nB, iT, iN, iE, and_self, SR, SV, sepL_nil, sepL_cons, sepV_ne, sepV_d, sepV_i, true_and, Bool.and_self, und_9, q6, Nat.le_refl, and_true, true_and, dm, tm, q7]
   refine Mir.use (e := e) ?_ h
   refine Mir.ret fun e h => ?_
   cases h
   simp only [↓reduceIte, reduceCtorEq, nA, nE, nL, and_self, and_true, true_and, SL, Tryz.results32]
  ·refine Mir.skip (Mir.toK (Mir.seqK (Mir.region fun e h => ?_)))
   simp only [↓reduceIte, reduceCtorEq, nA, nS, nM, nE, nL, nT, nB, iT, iN, iE, and_self, SR, SV]
   refine Mir.use (e := e) ?_ h
   refine Mir.ret fun e h => ?_
   cases h
   simp only [↓reduceIte, reduceCtorEq, nA, nE, nL, and_self, and_true, true_and, SL, Tryz.results32]

def strings_Cut (a0 : (List UInt8)) (a1 : (List UInt8)) : Option ((List UInt8) × (List UInt8) × Bool) :=
  bindO (stringslite_Cut a0 a1) fun (y101 : (List UInt8) × (List UInt8) × Bool) =>
  some (y101.1, y101.2.1, y101.2.2)
theorem strings_Cut_spec {a0 : (List UInt8)} {a1 : (List UInt8)} {y : (List UInt8) × (List UInt8) × Bool} (h : strings_Cut a0 a1 = some y) : Spec gP 18 [.d (.str a0), .d (.str a1)] (.tuple [.d (.str y.1), .d (.str y.2.1), .d (.bool y.2.2)]) := by
  refine spec_mir Tryz.func18 rfl (by kernel_rfl) (by kernel_rfl) (fun y : (List UInt8) × (List UInt8) × Bool => .tuple [.d (.str y.1), .d (.str y.2.1), .d (.bool y.2.2)]) ?_ h
  unfold strings_Cut
  simp only [List.replicate, List.length, nS, nA, Tryz.ntmps18, SV]
  refine Mir.seqK (Mir.region fun e h => ?_)
  simp only [↓reduceIte, reduceCtorEq, nA, nS, nM, nE, nL, nT, nB, iT, iN, iE, and_self, SR, SV]
  refine Mir.use (e := e) ?_ h
  refine Mir.seqK (Mir.bind fun y101 hy1 => Mir.region fun e h => ?_)
  simp only [↓reduceIte, reduceCtorEq, nA, nS, nM, nE, nL, nT, nB, iT, iN, iE, and_self, SR, SV]
  refine SpecS.by (stringslite_Cut_spec hy1) (by simp only [↓reduceIte, reduceCtorEq, nA, nE, nL, and_self, and_true, true_and, SL]) ?_
  simp only [↓reduceIte, reduceCtorEq, nA, nS, nM, nE, nL, nT, nB, iT, iN, iE, and_self, SR, SV]
  refine Mir.use (e := e) ?_ h
  refine Mir.ret fun e h => ?_
  cases h
  simp only [↓reduceIte, reduceCtorEq, nA, nE, nL, and_self, and_true, true_and, SL, Tryz.results18]

def bk_digits (a0 : (List UInt8)) : Option Bool :=
  bindO (if (a0 == []) = true then
        some false
      else
        bindO (strings_Trim a0 [48, 49, 50, 51, 52, 53, 54, 55, 56, 57]) fun (y101 : (List UInt8)) =>
        some (y101 == [])) fun (v102 : Bool) =>
  some v102
theorem bk_digits_spec {a0 : (List UInt8)} {y : Bool} (h : bk_digits a0 = some y) : Spec gP 73 [.d (.str a0)] (.d (.bool y)) := by
  refine spec_mir Tryz.func73 rfl (by kernel_rfl) (by kernel_rfl) (fun y : Bool => .d (.bool y)) ?_ h
  unfold bk_digits
  simp only [List.replicate, List.length, nS, nA, Tryz.ntmps73, SV]
  refine Mir.seqK (Mir.region fun e h => ?_)
  simp only [↓reduceIte, reduceCtorEq, nA, nS, nM, nE, nL, nT, nB, iT, iN, iE, and_self, SR, SV]
  refine Mir.use (e := e) ?_ h
  refine Mir.seqK (Mir.joinO (fun v102 : Bool => [U, U, .d (.bool v102), U, U, U, U, U, U, U]) (fun v102 : Bool => ⟨[], []⟩) (fun _ => rfl) ?_ ?_)
  ·refine Mir.ite (fun hb1 => ?_) (fun hb1 => ?_)
   ·refine Mir.region fun e h => ?_
    simp only [↓reduceIte, reduceCtorEq, nA, nS, nM, nE, nL, nT, nB, iT, iN, iE, and_self, SR, SV, hb1]
    cases h
    simp only [↓reduceIte, reduceCtorEq, nA, nE, nL, and_self, and_true, true_and, SL, hb1]
   ·refine Mir.bind fun y101 hy2 => Mir.region fun e h => ?_
    simp only [↓reduceIte, reduceCtorEq, nA, nS, nM, nE, nL, nT, nB, iT, iN, iE, and_self, SR, SV, hb1]
    refine SpecS.by (strings_Trim_spec hy2) (by simp only [↓reduceIte, reduceCtorEq, nA, nE, nL, and_self, and_true, true_and, SL, hb1]) ?_
    simp only [↓reduceIte, reduceCtorEq, nA, nS, nM, nE, nL, nT, nB, iT, iN, iE, and_self, SR, SV, hb1]
    cases h
    simp only [↓reduceIte, reduceCtorEq, nA, nE, nL, and_self, and_true, true_and, SL, hb1]
  ·intro v102
   refine Mir.toK (Mir.ret fun e h => ?_)
   cases h
   simp only [↓reduceIte, reduceCtorEq, nA, nE, nL, and_self, and_true, true_and, SL, Tryz.results73]

def bk_Value (a0 : (List UInt8)) : Option (Int × Int) :=
  bindO (strings_CutPrefix a0 [45]) fun (y101 : (List UInt8) × Bool) =>
  bindO (strings_Cut y101.1 [46]) fun (y102 : (List UInt8) × (List UInt8) × Bool) =>
  bindO (bindO (bk_digits y102.1) fun (y103 : Bool) =>
      if y103 = true then
        if (decide ((y102.1.length : Int) > 1)) = true then
          bindO (gt y102.1 0) fun (c104 : UInt8) =>
          if ((c104.toNat : Int) == 48) = true then
            some true
          else
            if y102.2.2 = true then
              bindO (bk_digits y102.2.1) fun (y105 : Bool) =>
              if y105 = true then
                if (decide ((y102.2.1.length : Int) > 3)) = true then
                  some true
                else
                  bindO (gt y102.2.1 (IntKind.i64.wrap ((y102.2.1.length : Int) - 1))) fun (c106 : UInt8) =>
                  if ((c106.toNat : Int) == 48) = true then
                    some true
                  else
                    if y101.2 = true then
                      some (y101.1 == [48])
                    else
                      some false
              else
                some true
            else
              if y101.2 = true then
                some (y101.1 == [48])
              else
                some false
        else
          if y102.2.2 = true then
            bindO (bk_digits y102.2.1) fun (y107 : Bool) =>
            if y107 = true then
              if (decide ((y102.2.1.length : Int) > 3)) = true then
                some true
              else
                bindO (gt y102.2.1 (IntKind.i64.wrap ((y102.2.1.length : Int) - 1))) fun (c108 : UInt8) =>
                if ((c108.toNat : Int) == 48) = true then
                  some true
                else
                  if y101.2 = true then
                    some (y101.1 == [48])
                  else
                    some false
            else
              some true
          else
            if y101.2 = true then
              some (y101.1 == [48])
            else
              some false
      else
        some true) fun (v109 : Bool) =>
  if v109 = true then
    some (0, 2)
  else
    if (decide ((y102.1.length : Int) > 10)) = true then
      some (0, 11)
    else
      guardO (okStr y102.1 y102.2.1) (
      bindO (cutF [48, 48, 48] (y102.2.1.length : Int)) fun (s110 : (List UInt8)) =>
      guardO (okStr (y102.1 ++ y102.2.1) s110) (
      bindO (strconv_ParseInt ((y102.1 ++ y102.2.1) ++ s110) 10 64) fun (y111 : Int) =>
      if (decide (y111 > 1000000000000)) = true then
        some (0, 11)
      else
        bindO (if y101.2 = true then
              some (IntKind.i64.wrap (0 - y111))
            else
              some y111) fun (v112 : Int) =>
        some (v112, 0)))
set_option maxHeartbeats 8000000 in
theorem bk_Value_spec {a0 : (List UInt8)} {y : Int × Int} (h : bk_Value a0 = some y) : Spec gP 58 [.d (.str a0)] (.tuple [.d (.int .i64 y.1), .d (.int .i64 y.2)]) := by
  refine spec_mir Tryz.func58 rfl (by kernel_rfl) (by kernel_rfl) (fun y : Int × Int => .tuple [.d (.int .i64 y.1), .d (.int .i64 y.2)]) ?_ h
  unfold bk_Value
  simp only [List.replicate, List.length, nS, nA, Tryz.ntmps58, SV]
  refine Mir.seqK (Mir.region fun e h => ?_)
  simp only [↓reduceIte, reduceCtorEq, nA, nS, nM, nE, nL, nT, nB, iT, iN, iE, and_self, SR, SV]
  refine Mir.use (e := e) ?_ h
  refine Mir.seqK (Mir.bind fun y101 hy1 => Mir.region fun e h => ?_)
  simp only [↓reduceIte, reduceCtorEq, nA, nS, nM, nE, nL, nT, nB, iT, iN, iE, and_self, SR, SV]
  refine SpecS.by (strings_CutPrefix_spec hy1) (by simp only [↓reduceIte, reduceCtorEq, nA, nE, nL, and_self, and_true, true_and, SL]) ?_
  simp only [↓reduceIte, reduceCtorEq, nA, nS, nM, nE, nL, nT, nB, iT, iN, iE, and_self, SR, SV]
  refine Mir.use (e := e) ?_ h
  refine Mir.seqK (Mir.bind fun y102 hy2 => Mir.region fun e h => ?_)
  simp only [↓reduceIte, reduceCtorEq, nA, nS, nM, nE, nL, nT, nB, iT, iN, iE, and_self, SR, SV]
  refine SpecS.by (strings_Cut_spec hy2) (by simp only [↓reduceIte, reduceCtorEq, nA, nE, nL, and_self, and_true, true_and, SL]) ?_
  simp only [↓reduceIte, reduceCtorEq, nA, nS, nM, nE, nL, nT, nB, iT, iN, iE, and_self, SR, SV]
  refine Mir.use (e := e) ?_ h
  refine Mir.seqK (Mir.seqK (Mir.joinO (fun v109 : Bool => [U, U, U, U, U, .d (.bool y101.2), .d (.str y102.1), .d (.str y102.2.1), U, U, U, U, U, U, U, U, U, U, U, U, U, U, U, U, U, U, U, U, U, U, U, U, U, U, U, U, U, U, U, U, U, U, U, U, U, U, U, U, U, U, U, U, U, U, U, U, U, U, U, U, U, U, .d (.bool v109), U, U, U, U, U, U, U, U, U, U, U, U, U, U, U, U, U, U, U, U]) (fun v109 : Bool => ⟨[], []⟩) (fun _ => rfl) ?_ ?_))
  ·refine Mir.bind fun y103 hy3 => Mir.ite (fun hb4 => ?_) (fun hb4 => ?_)
   ·refine Mir.ite (fun hb5 => ?_) (fun hb5 => ?_)
    ·refine Mir.bind fun c104 q6 => ?_
     replace q6 := gt_ok q6
     simp only [Int.reduceToNat, Int.reduceLT, Nat.sub_zero, dp0] at q6
     refine Mir.ite (fun hb7 => ?_) (fun hb7 => ?_)
     ·refine Mir.region fun e h => ?_
      simp only [↓reduceIte, reduceCtorEq, nA, nS, nM, nE, nL, nT, nB, iT, iN, iE, and_self, SR, SV, hb4, hb5, hb7]
      refine SpecS.by (bk_digits_spec hy3) (by simp only [↓reduceIte, reduceCtorEq, nA, nE, nL, and_self, and_true, true_and, SL, hb4, hb5, hb7]) ?_
      simp only [↓reduceIte, reduceCtorEq, nA, nS, nM, nE, nL, nT, nB, iT, iN, iE, and_self, SR, SV, und_9, q6, hb4, hb5, hb7]
      cases h
      simp only [↓reduceIte, reduceCtorEq, nA, nE, nL, and_self, and_true, true_and, SL, hb4, hb5, hb7]
     ·refine Mir.ite (fun hb8 => ?_) (fun hb8 => ?_)
      ·refine Mir.bind fun y105 hy9 => Mir.ite (fun hb10 => ?_) (fun hb10 => ?_)
       ·refine Mir.ite (fun hb11 => ?_) (fun hb11 => ?_)
        ·refine Mir.region fun e h => ?_
         simp only [↓reduceIte, reduceCtorEq, nA, nS, nM, nE, nL, nT, nB, iT, iN, iE, and_self, SR, SV, hb4, hb5, hb7, hb8, hb10, hb11]
         refine SpecS.by (bk_digits_spec hy3) (by simp only [↓reduceIte, reduceCtorEq, nA, nE, nL, and_self, and_true, true_and, SL, hb4, hb5, hb7, hb8, hb10, hb11]) ?_
         simp only [↓reduceIte, reduceCtorEq, nA, nS, nM, nE, nL, nT, nB, iT, iN, iE, and_self, SR, SV, und_9, q6, hb4, hb5, hb7, hb8, hb10, hb11]
         refine SpecS.by (bk_digits_spec hy9) (by simp only [↓reduceIte, reduceCtorEq, nA, nE, nL, and_self, and_true, true_and, SL, hb4, hb5, hb7, hb8, hb10, hb11]) ?_
         simp only [↓reduceIte, reduceCtorEq, nA, nS, nM, nE, nL, nT, nB, iT, iN, iE, and_self, SR, SV, und_9, hb4, hb5, hb7, hb8, hb10, hb11]
         cases h
         simp only [↓reduceIte, reduceCtorEq, nA, nE, nL, and_self, and_true, true_and, SL, hb4, hb5, hb7, hb8, hb10, hb11]
        ·refine Mir.bind fun c106 q12 => ?_
         replace q12 := gt_ok q12
         refine Mir.ite (fun hb13 => ?_) (fun hb13 => ?_)
         ·refine Mir.region fun e h => ?_
          simp only [↓reduceIte, reduceCtorEq, nA, nS, nM, nE, nL, nT, nB, iT, iN, iE, and_self, SR, SV, hb4, hb5, hb7, hb8, hb10, hb11, hb13]
          refine SpecS.by (bk_digits_spec hy3) (by simp only [↓reduceIte, reduceCtorEq, nA, nE, nL, and_self, and_true, true_and, SL, hb4, hb5, hb7, hb8, hb10, hb11, hb13]) ?_
          simp only [↓reduceIte, reduceCtorEq, nA, nS, nM, nE, nL, nT, nB, iT, iN, iE, and_self, SR, SV, und_9, q6, hb4, hb5, hb7, hb8, hb10, hb11, hb13]
          refine SpecS.by (bk_digits_spec hy9) (by simp only [↓reduceIte, reduceCtorEq, nA, nE, nL, and_self, and_true, true_and, SL, hb4, hb5, hb7, hb8, hb10, hb11, hb13]) ?_
          simp only [↓reduceIte, reduceCtorEq, nA, nS, nM, nE, nL, nT, nB, iT, iN, iE, and_self, SR, SV, und_9, q12, hb4, hb5, hb7, hb8, hb10, hb11, hb13]
          cases h
          simp only [↓reduceIte, reduceCtorEq, nA, nE, nL, and_self, and_true, true_and, SL, hb4, hb5, hb7, hb8, hb10, hb11, hb13]
         ·refine Mir.ite (fun hb14 => ?_) (fun hb14 => ?_)
          ·refine Mir.region fun e h => ?_
           simp only [↓reduceIte, reduceCtorEq, nA, nS, nM, nE, nL, nT, nB, iT, iN, iE, and_self, SR, SV, hb4, hb5, hb7, hb8, hb10, hb11, hb13, hb14]
           refine SpecS.by (bk_digits_spec hy3) (by simp only [↓reduceIte, reduceCtorEq, nA, nE, nL, and_self, and_true, true_and, SL, hb4, hb5, hb7, hb8, hb10, hb11, hb13, hb14]) ?_
           simp only [↓reduceIte, reduceCtorEq, nA, nS, nM, nE, nL, nT, nB, iT, iN, iE, and_self, SR, SV, und_9, q6, hb4, hb5, hb7, hb8, hb10, hb11, hb13, hb14]
           refine SpecS.by (bk_digits_spec hy9) (by simp only [↓reduceIte, reduceCtorEq, nA, nE, nL, and_self, and_true, true_and, SL, hb4, hb5, hb7, hb8, hb10, hb11, hb13, hb14]) ?_
           simp only [↓reduceIte, reduceCtorEq, nA, nS, nM, nE, nL, nT, nB, iT, iN, iE, and_self, SR, SV, und_9, q12, hb4, hb5, hb7, hb8, hb10, hb11, hb13, hb14]
           cases h
           simp only [↓reduceIte, reduceCtorEq, nA, nE, nL, and_self, and_true, true_and, SL, hb4, hb5, hb7, hb8, hb10, hb11, hb13, hb14]
          ·refine Mir.region fun e h => ?_
           simp only [↓reduceIte, reduceCtorEq, nA, nS, nM, nE, nL, nT, nB, iT, iN, iE, and_self, SR, SV, hb4, hb5, hb7, hb8, hb10, hb11, hb13, hb14]
           refine SpecS.by (bk_digits_spec hy3) (by simp only [↓reduceIte, reduceCtorEq, nA, nE, nL, and_self, and_true, true_and, SL, hb4, hb5, hb7, hb8, hb10, hb11, hb13, hb14]) ?_
           simp only [↓reduceIte, reduceCtorEq, nA, nS, nM, nE, nL, nT, nB, iT, iN, iE, and_self, SR, SV, und_9, q6, hb4, hb5, hb7, hb8, hb10, hb11, hb13, hb14]
           refine SpecS.by (bk_digits_spec hy9) (by simp only [↓reduceIte, reduceCtorEq, nA, nE, nL, and_self, and_true, true_and, SL, hb4, hb5, hb7, hb8, hb10, hb11, hb13, hb14]) ?_
           simp only [↓reduceIte, reduceCtorEq, nA, nS, nM, nE, nL, nT, nB, iT, iN, iE, and_self, SR, SV, und_9, q12, hb4, hb5, hb7, hb8, hb10, hb11, hb13, hb14]
           cases h
           simp only [↓reduceIte, reduceCtorEq, nA, nE, nL, and_self, and_true, true_and, SL, hb4, hb5, hb7, hb8, hb10, hb11, hb13, hb14]
       ·refine Mir.region fun e h => ?_
        simp only [↓reduceIte, reduceCtorEq, nA, nS, nM, nE, nL, nT, nB, iT, iN, iE, and_self, SR, SV, hb4, hb5, hb7, hb8, hb10]
        refine SpecS.by (bk_digits_spec hy3) (by simp only [↓reduceIte, reduceCtorEq, nA, nE, nL, and_self, and_true, true_and, SL, hb4, hb5, hb7, hb8, hb10]) ?_
        simp only [↓reduceIte, reduceCtorEq, nA, nS, nM, nE, nL, nT, nB, iT, iN, iE, and_self, SR, SV, und_9, q6, hb4, hb5, hb7, hb8, hb10]
        refine SpecS.by (bk_digits_spec hy9) (by simp only [↓reduceIte, reduceCtorEq, nA, nE, nL, and_self, and_true, true_and, SL, hb4, hb5, hb7, hb8, hb10]) ?_
        simp only [↓reduceIte, reduceCtorEq, nA, nS, nM, nE, nL, nT, nB, iT, iN, iE, and_self, SR, SV, hb4, hb5, hb7, hb8, hb10]
        cases h
        simp only [↓reduceIte, reduceCtorEq, nA, nE, nL, and_self, and_true, true_and, SL, hb4, hb5, hb7, hb8, hb10]
      ·refine Mir.ite (fun hb15 => ?_) (fun hb15 => ?_)
       ·refine Mir.region fun e h => ?_
        simp only [↓reduceIte, reduceCtorEq, nA, nS, nM, nE, nL, nT, nB, iT, iN, iE, and_self, SR, SV, hb4, hb5, hb7, hb8, hb15]
        refine SpecS.by (bk_digits_spec hy3) (by simp only [↓reduceIte, reduceCtorEq, nA, nE, nL, and_self, and_true, true_and, SL, hb4, hb5, hb7, hb8, hb15]) ?_
        simp only [↓reduceIte, reduceCtorEq, nA, nS, nM, nE, nL, nT, nB, iT, iN, iE, and_self, SR, SV, und_9, q6, hb4, hb5, hb7, hb8, hb15]
        cases h
        simp only [↓reduceIte, reduceCtorEq, nA, nE, nL, and_self, and_true, true_and, SL, hb4, hb5, hb7, hb8, hb15]
       ·refine Mir.region fun e h => ?_
        simp only [↓reduceIte, reduceCtorEq, nA, nS, nM, nE, nL, nT, nB, iT, iN, iE, and_self, SR, SV, hb4, hb5, hb7, hb8, hb15]
        refine SpecS.by (bk_digits_spec hy3) (by simp only [↓reduceIte, reduceCtorEq, nA, nE, nL, and_self, and_true, true_and, SL, hb4, hb5, hb7, hb8, hb15]) ?_
        simp only [↓reduceIte, reduceCtorEq, nA, nS, nM, nE, nL, nT, nB, iT, iN, iE, and_self, SR, SV, und_9, q6, hb4, hb5, hb7, hb8, hb15]
        cases h
        simp only [↓reduceIte, reduceCtorEq, nA, nE, nL, and_self, and_true, true_and, SL, hb4, hb5, hb7, hb8, hb15]
    ·refine Mir.ite (fun hb16 => ?_) (fun hb16 => ?_)
     ·refine Mir.bind fun y107 hy17 => Mir.ite (fun hb18 => ?_) (fun hb18 => ?_)
      ·refine Mir.ite (fun hb19 => ?_) (fun hb19 => ?_)
       ·refine Mir.region fun e h => ?_
        simp only [↓reduceIte, reduceCtorEq, nA, nS, nM, nE, nL, nT, nB, iT, iN, iE, and_self, SR, SV, hb4, hb5, hb16, hb18, hb19]
        refine SpecS.by (bk_digits_spec hy3) (by simp only [↓reduceIte, reduceCtorEq, nA, nE, nL, and_self, and_true, true_and, SL, hb4, hb5, hb16, hb18, hb19]) ?_
        simp only [↓reduceIte, reduceCtorEq, nA, nS, nM, nE, nL, nT, nB, iT, iN, iE, and_self, SR, SV, und_9, hb4, hb5, hb16, hb18, hb19]
        refine SpecS.by (bk_digits_spec hy17) (by simp only [↓reduceIte, reduceCtorEq, nA, nE, nL, and_self, and_true, true_and, SL, hb4, hb5, hb16, hb18, hb19]) ?_
        simp only [↓reduceIte, reduceCtorEq, nA, nS, nM, nE, nL, nT, nB, iT, iN, iE, and_self, SR, SV, und_9, hb4, hb5, hb16, hb18, hb19]
        cases h
        simp only [↓reduceIte, reduceCtorEq, nA, nE, nL, and_self, and_true, true_and, SL, hb4, hb5, hb16, hb18, hb19]
       ·refine Mir.bind fun c108 q20 => ?_
        replace q20 := gt_ok q20
        refine Mir.ite (fun hb21 => ?_) (fun hb21 => ?_)
        ·refine Mir.region fun e h => ?_
         simp only [↓reduceIte, reduceCtorEq, nA, nS, nM, nE, nL, nT, nB, iT, iN, iE, and_self, SR, SV, hb4, hb5, hb16, hb18, hb19, hb21]
         refine SpecS.by (bk_digits_spec hy3) (by simp only [↓reduceIte, reduceCtorEq, nA, nE, nL, and_self, and_true, true_and, SL, hb4, hb5, hb16, hb18, hb19, hb21]) ?_
         simp only [↓reduceIte, reduceCtorEq, nA, nS, nM, nE, nL, nT, nB, iT, iN, iE, and_self, SR, SV, und_9, hb4, hb5, hb16, hb18, hb19, hb21]
         refine SpecS.by (bk_digits_spec hy17) (by simp only [↓reduceIte, reduceCtorEq, nA, nE, nL, and_self, and_true, true_and, SL, hb4, hb5, hb16, hb18, hb19, hb21]) ?_
         simp only [↓reduceIte, reduceCtorEq, nA, nS, nM, nE, nL, nT, nB, iT, iN, iE, and_self, SR, SV, und_9, q20, hb4, hb5, hb16, hb18, hb19, hb21]
         cases h
         simp only [↓reduceIte, reduceCtorEq, nA, nE, nL, and_self, and_true, true_and, SL, hb4, hb5, hb16, hb18, hb19, hb21]
        ·refine Mir.ite (fun hb22 => ?_) (fun hb22 => ?_)
         ·refine Mir.region fun e h => ?_
          simp only [↓reduceIte, reduceCtorEq, nA, nS, nM, nE, nL, nT, nB, iT, iN, iE, and_self, SR, SV, hb4, hb5, hb16, hb18, hb19, hb21, hb22]
          refine SpecS.by (bk_digits_spec hy3) (by simp only [↓reduceIte, reduceCtorEq, nA, nE, nL, and_self, and_true, true_and, SL, hb4, hb5, hb16, hb18, hb19, hb21, hb22]) ?_
          simp only [↓reduceIte, reduceCtorEq, nA, nS, nM, nE, nL, nT, nB, iT, iN, iE, and_self, SR, SV, und_9, hb4, hb5, hb16, hb18, hb19, hb21, hb22]
          refine SpecS.by (bk_digits_spec hy17) (by simp only [↓reduceIte, reduceCtorEq, nA, nE, nL, and_self, and_true, true_and, SL, hb4, hb5, hb16, hb18, hb19, hb21, hb22]) ?_
          simp only [↓reduceIte, reduceCtorEq, nA, nS, nM, nE, nL, nT, nB, iT, iN, iE, and_self, SR, SV, und_9, q20, hb4, hb5, hb16, hb18, hb19, hb21, hb22]
          cases h
          simp only [↓reduceIte, reduceCtorEq, nA, nE, nL, and_self, and_true, true_and, SL, hb4, hb5, hb16, hb18, hb19, hb21, hb22]
         ·refine Mir.region fun e h => ?_
          simp only [↓reduceIte, reduceCtorEq, nA, nS, nM, nE, nL, nT, nB, iT, iN, iE, and_self, SR, SV, hb4, hb5, hb16, hb18, hb19, hb21, hb22]
          refine SpecS.by (bk_digits_spec hy3) (by simp only [↓reduceIte, reduceCtorEq, nA, nE, nL, and_self, and_true, true_and, SL, hb4, hb5, hb16, hb18, hb19, hb21, hb22]) ?_
          simp only [↓reduceIte, reduceCtorEq, nA, nS, nM, nE, nL, nT, nB, iT, iN, iE, and_self, SR, SV, und_9, hb4, hb5, hb16, hb18, hb19, hb21, hb22]
          refine SpecS.by (bk_digits_spec hy17) (by simp only [↓reduceIte, reduceCtorEq, nA, nE, nL, and_self, and_true, true_and, SL, hb4, hb5, hb16, hb18, hb19, hb21, hb22]) ?_
          simp only [↓reduceIte, reduceCtorEq, nA, nS, nM, nE, nL, nT, nB, iT, iN, iE, and_self, SR, SV, und_9, q20, hb4, hb5, hb16, hb18, hb19, hb21, hb22]
          cases h
          simp only [↓reduceIte, reduceCtorEq, nA, nE, nL, and_self, and_true, true_and, SL, hb4, hb5, hb16, hb18, hb19, hb21, hb22]
      ·refine Mir.region fun e h => ?_
       simp only [↓reduceIte, reduceCtorEq, nA, nS, nM, nE, nL, nT, nB, iT, iN, iE, and_self, SR, SV, hb4, hb5, hb16, hb18]
       refine SpecS.by (bk_digits_spec hy3) (by simp only [↓reduceIte, reduceCtorEq, nA, nE, nL, and_self, and_true, true_and, SL, hb4, hb5, hb16, hb18]) ?_
       simp only [↓reduceIte, reduceCtorEq, nA, nS, nM, nE, nL, nT, nB, iT, iN, iE, and_self, SR, SV, und_9, hb4, hb5, hb16, hb18]
       refine SpecS.by (bk_digits_spec hy17) (by simp only [↓reduceIte, reduceCtorEq, nA, nE, nL, and_self, and_true, true_and, SL, hb4, hb5, hb16, hb18]) ?_
       simp only [↓reduceIte, reduceCtorEq, nA, nS, nM, nE, nL, nT, nB, iT, iN, iE, and_self, SR, SV, hb4, hb5, hb16, hb18]
       cases h
       simp only [↓reduceIte, reduceCtorEq, nA, nE, nL, and_self, and_true, true_and, SL, hb4, hb5, hb16, hb18]
     ·refine Mir.ite (fun hb23 => ?_) (fun hb23 => ?_)
      ·refine Mir.region fun e h => ?_
       simp only [↓reduceIte, reduceCtorEq, nA, nS, nM, nE, nL, nT, nB, iT, iN, iE, and_self, SR, SV, hb4, hb5, hb16, hb23]
       refine SpecS.by (bk_digits_spec hy3) (by simp only [↓reduceIte, reduceCtorEq, nA, nE, nL, and_self, and_true, true_and, SL, hb4, hb5, hb16, hb23]) ?_
       simp only [↓reduceIte, reduceCtorEq, nA, nS, nM, nE, nL, nT, nB, iT, iN, iE, and_self, SR, SV, und_9, hb4, hb5, hb16, hb23]
       cases h
       simp only [↓reduceIte, reduceCtorEq, nA, nE, nL, and_self, and_true, true_and, SL, hb4, hb5, hb16, hb23]
      ·refine Mir.region fun e h => ?_
       simp only [↓reduceIte, reduceCtorEq, nA, nS, nM, nE, nL, nT, nB, iT, iN, iE, and_self, SR, SV, hb4, hb5, hb16, hb23]
       refine SpecS.by (bk_digits_spec hy3) (by simp only [↓reduceIte, reduceCtorEq, nA, nE, nL, and_self, and_true, true_and, SL, hb4, hb5, hb16, hb23]) ?_
       simp only [↓reduceIte, reduceCtorEq, nA, nS, nM, nE, nL, nT, nB, iT, iN, iE, and_self, SR, SV, und_9, hb4, hb5, hb16, hb23]
       cases h
       simp only [↓reduceIte, reduceCtorEq, nA, nE, nL, and_self, and_true, true_and, SL, hb4, hb5, hb16, hb23]
   ·refine Mir.region fun e h => ?_
    simp only [↓reduceIte, reduceCtorEq, nA, nS, nM, nE, nL, nT, nB, iT, iN, iE, and_self, SR, SV, hb4]
    refine SpecS.by (bk_digits_spec hy3) (by simp only [↓reduceIte, reduceCtorEq, nA, nE, nL, and_self, and_true, true_and, SL, hb4]) ?_
    simp only [↓reduceIte, reduceCtorEq, nA, nS, nM, nE, nL, nT, nB, iT, iN, iE, and_self, SR, SV, hb4]
    cases h
    simp only [↓reduceIte, reduceCtorEq, nA, nE, nL, and_self, and_true, true_and, SL, hb4]
  ·intro v109
   refine Mir.toK (Mir.cond rfl (fun hb25 => ?_) (fun hb25 => ?_))
   ·refine Mir.seqK (Mir.region fun e h => ?_)
    simp only [↓reduceIte, reduceCtorEq, nA, nS, nM, nE, nL, nT, nB, iT, iN, iE, and_self, SR, SV]
    refine Mir.use (e := e) ?_ h
    refine Mir.ret fun e h => ?_
    cases h
    simp only [↓reduceIte, reduceCtorEq, nA, nE, nL, and_self, and_true, true_and, SL, Tryz.results58]
   ·refine Mir.skip (Mir.toK (Mir.seqK (Mir.seqK (Mir.region fun e h => ?_))))
    simp only [↓reduceIte, reduceCtorEq, nA, nS, nM, nE, nL, nT, nB, iT, iN, iE, and_self, SR, SV, und_9]
    refine Mir.use (e := e) ?_ h
    refine Mir.cond rfl (fun hb27 => ?_) (fun hb27 => ?_)
    ·refine Mir.seqK (Mir.region fun e h => ?_)
     simp only [↓reduceIte, reduceCtorEq, nA, nS, nM, nE, nL, nT, nB, iT, iN, iE, and_self, SR, SV]
     refine Mir.use (e := e) ?_ h
     refine Mir.ret fun e h => ?_
     cases h
     simp only [↓reduceIte, reduceCtorEq, nA, nE, nL, and_self, and_true, true_and, SL, Tryz.results58]
    ·refine Mir.skip (Mir.toK (Mir.seqK (Mir.guard fun q28 => ?_)))
     replace q28 := okStr_ok q28
     refine Mir.bind fun s110 q29 => ?_
     replace q29 := cutF_ok q29
     simp only [xLC, xLN, Nat.zero_add, nA] at q29
     refine Mir.guard fun q30 => ?_
     replace q30 := okStr_ok q30
     refine Mir.bind fun y111 hy31 => Mir.region fun e h => ?_
     simp only [↓reduceIte, reduceCtorEq, nA, nS, nM, nE, nL, nT, nB, iT, iN, iE, and_self, SR, SV, q28, und_9, q29, Nat.le_refl, and_true, true_and, dm, tm, q30]
     refine SpecS.by (strconv_ParseInt_spec hy31) (by simp only [↓reduceIte, reduceCtorEq, nA, nE, nL, and_self, and_true, true_and, SL]) ?_
     simp only [↓reduceIte, reduceCtorEq, nA, nS, nM, nE, nL, nT, nB, iT, iN, iE, and_self, SR, SV]
     refine Mir.use (e := e) ?_ h
     refine Mir.seqK (Mir.seqK (Mir.region fun e h => ?_))
     simp only [↓reduceIte, reduceCtorEq, nA, nS, nM, nE, nL, nT, nB, iT, iN, iE, and_self, SR, SV]
     refine Mir.use (e := e) ?_ h
     refine Mir.cond rfl (fun hb33 => ?_) (fun hb33 => ?_)
     ·refine Mir.seqK (Mir.region fun e h => ?_)
      simp only [↓reduceIte, reduceCtorEq, nA, nS, nM, nE, nL, nT, nB, iT, iN, iE, and_self, SR, SV]
      refine Mir.use (e := e) ?_ h
      refine Mir.ret fun e h => ?_
      cases h
      simp only [↓reduceIte, reduceCtorEq, nA, nE, nL, and_self, and_true, true_and, SL, Tryz.results58]
     ·refine Mir.skip (Mir.toK (Mir.seqK (Mir.seqK (Mir.region fun e h => ?_))))
      simp only [↓reduceIte, reduceCtorEq, nA, nS, nM, nE, nL, nT, nB, iT, iN, iE, and_self, SR, SV]
      refine Mir.use (e := e) ?_ h
      refine Mir.joinO (fun v112 : Int => [U, U, U, U, U, U, U, U, U, .d (.int .i64 v112), U, U, U, U, U, U, U, U, U, U, U, U, U, U, U, U, U, U, U, U, U, U, U, U, U, U, U, U, U, U, U, U, U, U, U, U, U, U, U, U, U, U, U, U, U, U, U, U, U, U, U, U, U, U, U, U, U, U, U, U, U, U, U, U, U, U, U, U, U, U, U, U, U]) (fun v112 : Int => ⟨[], []⟩) (fun _ => rfl) ?_ ?_
      ·refine Mir.cond rfl (fun hb35 => ?_) (fun hb35 => ?_)
       ·refine Mir.region fun e h => ?_
        simp only [↓reduceIte, reduceCtorEq, nA, nS, nM, nE, nL, nT, nB, iT, iN, iE, and_self, SR, SV]
        cases h
        simp only [↓reduceIte, reduceCtorEq, nA, nE, nL, and_self, and_true, true_and, SL, Tryz.results58]
       ·refine Mir.skip fun e h => ?_
        cases h
        simp only [↓reduceIte, reduceCtorEq, nA, nE, nL, and_self, and_true, true_and, SL, Tryz.results58]
      ·intro v112
       refine Mir.toK (Mir.seqK (Mir.region fun e h => ?_))
       simp only [↓reduceIte, reduceCtorEq, nA, nS, nM, nE, nL, nT, nB, iT, iN, iE, and_self, SR, SV]
       refine Mir.use (e := e) ?_ h
       refine Mir.ret fun e h => ?_
       cases h
       simp only [↓reduceIte, reduceCtorEq, nA, nE, nL, and_self, and_true, true_and, SL, Tryz.results58]

def bk_Parse (a0 : (List UInt8)) : Option (ApiBlock × Int × Int) :=
  if (decide ((a0.length : Int) > 65536)) = true then
    some (ApiBlock.mk false [] [], 0, 3)
  else
    bindO (bindO (bindO (bindO (some ()) fun (v3537 : Unit) =>
                if (0 == (a0.length : Int)) = true then
                  some true
                else
                  bindO (gt a0 0) fun (c3538 : UInt8) =>
                  some ((c3538.toNat : Int) != 47)) fun (v3539 : Bool) =>
            if v3539 = true then
              some (false, 0)
            else
              some (true, 1)) fun (v3536 : Bool × Int) =>
        loopX (fun (v4501 : Bool × BlockParser) =>
          bindO (some ()) fun (v4792 : Unit) =>
          if (v4501.2.at_ == (v4501.2.s.length : Int)) = true then
            if v4501.1 = true then
              some (.ret (2, v4501.2))
            else
              some (.ret (0, v4501.2))
          else
            bindO (gt v4501.2.s v4501.2.at_) fun (c4843 : UInt8) =>
            if ((c4843.toNat : Int) == 40) = true then
              bindO (bindO (loopX (fun (v4978 : Int) =>
                        bindO (bindO (some ()) fun (v4979 : Unit) =>
                            if (v4978 == (v4501.2.s.length : Int)) = true then
                              some false
                            else
                              bindO (gt v4501.2.s v4978) fun (c4980 : UInt8) =>
                              bindO (bk_printable (c4980.toNat : Int)) fun (y4981 : Bool) =>
                              some y4981) fun (v4982 : Bool) =>
                        if v4982 = true then
                          some (.go (IntKind.i64.wrap (v4978 + 1)))
                        else
                          some (.ret v4978)) fuel (IntKind.i64.wrap (v4501.2.at_ + 1))) fun (v4962 : Int) =>
                  bindO (cutL v4501.2.s (IntKind.i64.wrap (v4501.2.at_ + 1)) v4962) fun (s4983 : (List UInt8)) =>
                  if (decide ((s4983.length : Int) > 100)) = true then
                    some (3, v4501.2)
                  else
                    bindO (if (s4983 == []) = true then
                          some (true, v4962)
                        else
                          bindO (bindO (bindO (some ()) fun (v4988 : Unit) =>
                                  if (v4962 == (v4501.2.s.length : Int)) = true then
                                    some true
                                  else
                                    bindO (gt v4501.2.s v4962) fun (c4989 : UInt8) =>
                                    some ((c4989.toNat : Int) != 41)) fun (v4990 : Bool) =>
                              if v4990 = true then
                                some (false, v4962)
                              else
                                some (true, IntKind.i64.wrap (v4962 + 1))) fun (v4987 : Bool × Int) =>
                          some (!v4987.1, v4987.2)) fun (v4991 : Bool × Int) =>
                    if v4991.1 = true then
                      some (2, BlockParser.mk v4501.2.s v4991.2 v4501.2.b)
                    else
                      bindO (some ()) fun (v4992 : Unit) =>
                      if (!(v4991.2 == (v4501.2.s.length : Int))) = true then
                        some (2, BlockParser.mk v4501.2.s v4991.2 (ApiBlock.mk v4501.2.b.Skip v4501.2.b.Words s4983))
                      else
                        some (0, BlockParser.mk v4501.2.s v4991.2 (ApiBlock.mk v4501.2.b.Skip v4501.2.b.Words s4983))) fun (v4941 : Int × BlockParser) =>
              some (.ret (v4941.1, v4941.2))
            else
              bindO (bindO (gt v4501.2.s v4501.2.at_) fun (c5026 : UInt8) =>
                  if ((decide ((c5026.toNat : Int) < 65)) || (decide ((c5026.toNat : Int) > 90))) = true then
                    some (2, v4501.2)
                  else
                    if ((v4501.2.b.Words.length : Int) == 16) = true then
                      some (3, v4501.2)
                    else
                      bindO (loopX (fun (v5053 : Int) =>
                            bindO (if (decide (v5053 < (v4501.2.s.length : Int))) = true then
                                  bindO (gt v4501.2.s v5053) fun (c5054 : UInt8) =>
                                  if (decide ((c5054.toNat : Int) ≥ 48)) = true then
                                    if (decide ((c5054.toNat : Int) ≤ 57)) = true then
                                      some true
                                    else
                                      if ((c5054.toNat : Int) == 45) = true then
                                        some true
                                      else
                                        some ((c5054.toNat : Int) == 46)
                                  else
                                    if ((c5054.toNat : Int) == 45) = true then
                                      some true
                                    else
                                      some ((c5054.toNat : Int) == 46)
                                else
                                  some false) fun (v5055 : Bool) =>
                            if v5055 = true then
                              some (.go (IntKind.i64.wrap (v5053 + 1)))
                            else
                              some (.ret v5053)) fuel (IntKind.i64.wrap (v4501.2.at_ + 1))) fun (v5041 : Int) =>
                      bindO (cutL v4501.2.s (IntKind.i64.wrap (v4501.2.at_ + 1)) v5041) fun (s5056 : (List UInt8)) =>
                      bindO (bk_Value s5056) fun (y5057 : Int × Int) =>
                      if (y5057.2 != 0) = true then
                        some (y5057.2, v4501.2)
                      else
                        guardO (okLen (v4501.2.b.Words.length + 1)) (
                        some (0, BlockParser.mk v4501.2.s v5041 (ApiBlock.mk v4501.2.b.Skip (v4501.2.b.Words ++ [ApiWord.mk (c5026.toNat : Int) y5057.1]) v4501.2.b.Comment)))) fun (v5025 : Int × BlockParser) =>
              if (v5025.1 != 0) = true then
                some (.ret (v5025.1, v5025.2))
              else
                bindO (some ()) fun (v5058 : Unit) =>
                if (v5025.2.at_ == (v5025.2.s.length : Int)) = true then
                  some (.ret (0, v5025.2))
                else
                  bindO (bindO (bindO (some ()) fun (v5063 : Unit) =>
                          if (v5025.2.at_ == (v5025.2.s.length : Int)) = true then
                            some true
                          else
                            bindO (gt v5025.2.s v5025.2.at_) fun (c5064 : UInt8) =>
                            some ((c5064.toNat : Int) != 32)) fun (v5065 : Bool) =>
                      if v5065 = true then
                        some (false, v5025.2.at_)
                      else
                        some (true, IntKind.i64.wrap (v5025.2.at_ + 1))) fun (v5062 : Bool × Int) =>
                  if (!v5062.1) = true then
                    some (.ret (2, BlockParser.mk v5025.2.s v5062.2 v5025.2.b))
                  else
                    some (.go (true, BlockParser.mk v5025.2.s v5062.2 v5025.2.b))) fuel (false, BlockParser.mk a0 v3536.2 (ApiBlock.mk v3536.1 [] []))) fun (v3532 : Int × BlockParser) =>
    if (v3532.1 != 0) = true then
      some (ApiBlock.mk false [] [], v3532.2.at_, v3532.1)
    else
      some (v3532.2.b, 0, 0)
set_option maxHeartbeats 8000000 in
theorem bk_Parse_spec {a0 : (List UInt8)} {y : ApiBlock × Int × Int} (h : bk_Parse a0 = some y) : Spec gP 14 [.d (.str a0)] (.tuple [.agg [.d (.bool y.1.Skip), .d (.list (List.map encApiWord y.1.Words)), .d (.str y.1.Comment)], .d (.int .i64 y.2.1), .d (.int .i64 y.2.2)]) := by
  refine spec_mir Tryz.func14 rfl (by kernel_rfl) (by kernel_rfl) (fun y : ApiBlock × Int × Int => .tuple [.agg [.d (.bool y.1.Skip), .d (.list (List.map encApiWord y.1.Words)), .d (.str y.1.Comment)], .d (.int .i64 y.2.1), .d (.int .i64 y.2.2)]) ?_ h
  unfold bk_Parse
  simp only [List.replicate, List.length, nS, nA, Tryz.ntmps14, SV]
  refine Mir.seqK (Mir.region fun e h => ?_)
  simp only [↓reduceIte, reduceCtorEq, nA, nS, nM, nE, nL, nT, nB, iT, iN, iE, and_self, SR, SV, zero_36, ENMB]
  refine Mir.use (e := e) ?_ h
  refine Mir.seqK (Mir.seqK (Mir.region fun e h => ?_))
  simp only [↓reduceIte, reduceCtorEq, nA, nS, nM, nE, nL, nT, nB, iT, iN, iE, and_self, SR, SV, und_9, ENMB]
  refine Mir.use (e := e) ?_ h
  refine Mir.cond rfl (fun hb2 => ?_) (fun hb2 => ?_)
  ·refine Mir.seqK (Mir.region fun e h => ?_)
   simp only [↓reduceIte, reduceCtorEq, nA, nS, nM, nE, nL, nT, nB, iT, iN, iE, and_self, SR, SV, zero_36, pl_36, sz_36]
   refine Mir.use (e := e) ?_ h
   refine Mir.ret fun e h => ?_
   cases h
   simp only [↓reduceIte, reduceCtorEq, nA, nE, nL, and_self, and_true, true_and, SL, Tryz.results14, ag_36, sz_36]
  ·refine Mir.skip (Mir.toK (Mir.seqK (Mir.region fun e h => ?_)))
   simp only [↓reduceIte, reduceCtorEq, nA, nS, nM, nE, nL, nT, nB, iT, iN, iE, and_self, SR, SV, zero_62, pl_62, sz_62, ENMB]
   refine Mir.use (e := e) ?_ h
   refine Mir.seqK (Mir.seqK (Mir.bind fun v3532 hv4860 => Mir.region fun e h => ?_))
   simp only [↓reduceIte, reduceCtorEq, nA, nS, nM, nE, nL, nT, nB, iT, iN, iE, and_self, SR, SV, ENMB]
   refine SpecS.inl Tryz.func27 rfl (by kernel_rfl) (by kernel_rfl) (fun v3532 : Int × BlockParser => .d (.int .i64 v3532.1)) (fun v3532 : Int × BlockParser => ⟨[[.d (.bool false), .nil, .d (.str [])], [.d (.str v3532.2.s), .d (.int .i64 v3532.2.at_), .d (.bool v3532.2.b.Skip), .own 0 (List.map encApiWord v3532.2.b.Words), .d (.str v3532.2.b.Comment)]], [(58, v3532.2.b.Words.length)]⟩) hv4860 rfl ?_ ?_
   ·simp only [List.replicate, List.length, nS, nA, Tryz.ntmps27, SV]
    refine Mir.gh [.cell 1 3 58] rfl (Mir.seqK (Mir.region fun e h => ?_))
    simp only [↓reduceIte, reduceCtorEq, nA, nS, nM, nE, nL, nT, nB, iT, iN, iE, and_self, SR, SV, ENMB]
    refine Mir.use (e := e) ?_ h
    refine Mir.seqK (Mir.bind fun v3536 hv4866 => Mir.region fun e h => ?_)
    simp only [↓reduceIte, reduceCtorEq, nA, nS, nM, nE, nL, nT, nB, iT, iN, iE, and_self, SR, SV, ENMB]
    refine SpecS.inl Tryz.func43 rfl (by kernel_rfl) (by kernel_rfl) (fun v3536 : Bool × Int => .d (.bool v3536.1)) (fun v3536 : Bool × Int => ⟨[[.d (.bool false), .nil, .d (.str [])], [.d (.str a0), .d (.int .i64 v3536.2), .d (.bool false), .own 0 (List.map encApiWord []), .d (.str [])]], [(58, 0)]⟩) hv4866 rfl ?_ ?_
    ·simp only [List.replicate, List.length, nS, nA, Tryz.ntmps43, SV]
     refine Mir.seqK (Mir.region fun e h => ?_)
     simp only [↓reduceIte, reduceCtorEq, nA, nS, nM, nE, nL, nT, nB, iT, iN, iE, and_self, SR, SV, ENMB]
     refine Mir.use (e := e) ?_ h
     refine Mir.seqK (Mir.seqK (Mir.joinO (fun v3539 : Bool => [.ptr 1 0, U, U, U, U, U, U, U, U, U, U, U, U, U, U, U, U, U, U, .d (.bool v3539), U, U, U, U, U, U, U]) (fun v3539 : Bool => ⟨[[.d (.bool false), .nil, .d (.str [])], [.d (.str a0), .d (.int .i64 0), .d (.bool false), .own 0 (List.map encApiWord []), .d (.str [])]], [(58, 0)]⟩) (fun _ => rfl) ?_ ?_))
     ·refine Mir.bind fun v3537 hv4867 => Mir.ite (fun hb4868 => ?_) (fun hb4868 => ?_)
      ·refine Mir.regionA 1 [] [.ptr 1 0, .d (.int .u8 47), U, U, .d (.bool false), .ptr 1 0, .d (.bool (0 == (a0.length : Int))), .d (.bool (0 == (a0.length : Int))), .skip, .skip, .skip, .skip, .skip, .skip, .skip, .skip, .skip, .skip, .skip, .d (.bool true), U, U, U, U, U, U, U] ⟨[[.d (.bool false), .nil, .d (.str [])], [.d (.str a0), .d (.int .i64 0), .d (.bool false), .own 0 (List.map encApiWord []), .d (.str [])]], [(58, 0)]⟩ (by kernel_rfl) (fun e h => ?_) (fun e h => ?_)
       ·simp only [↓reduceIte, reduceCtorEq, nA, nS, nM, nE, nL, nT, nB, iT, iN, iE, and_self, SR, SV, w_none, w_eq, and_true, true_and, tkS, tk0, tkN, dpS, dp0, sepL_nil, sepL_cons, sepV_ne, sepV_d, sepV_i, true_and, Bool.and_self, ENMB, hb4868]
        refine regA.one (j := 1) (by kernel_rfl) rfl (regW.of ?_)
        simp only [↓reduceIte, reduceCtorEq, nA, nS, nM, nE, nL, nT, nB, iT, iN, iE, and_self, SR, SV, w_none, w_eq, and_true, true_and, tkS, tk0, tkN, dpS, dp0, ENMB, hb4868]
        refine SpecS.inl Tryz.func44 rfl (by kernel_rfl) (by kernel_rfl) (fun v3537 : Unit => .d (.bool (0 == (a0.length : Int)))) (fun v3537 : Unit => ⟨[[.d (.bool false), .nil, .d (.str [])], [.d (.str a0), .d (.int .i64 0), .d (.bool false), .own 0 (List.map encApiWord []), .d (.str [])]], [(58, 0)]⟩) hv4867 rfl ?_ ?_
        ·simp only [List.replicate, List.length, nS, nA, Tryz.ntmps44, SV]
         refine Mir.seqK (Mir.region fun e h => ?_)
         simp only [↓reduceIte, reduceCtorEq, nA, nS, nM, nE, nL, nT, nB, iT, iN, iE, and_self, SR, SV, ENMB]
         refine Mir.use (e := e) ?_ h
         refine Mir.seqK (Mir.regionD [] (by kernel_rfl) fun e h => ?_)
         simp only [↓reduceIte, reduceCtorEq, nA, nS, nM, nE, nL, nT, nB, iT, iN, iE, and_self, SR, SV, sepL_nil, sepL_cons, sepV_ne, sepV_d, sepV_i, true_and, Bool.and_self, fld_62_1, sz_3, ag_3, fld_62_0, sz_9, ag_9, und_9, ENMB]
         refine Mir.use (e := e) ?_ h
         refine Mir.ret fun e h => ?_
         cases h
         simp only [↓reduceIte, reduceCtorEq, nA, nE, nL, and_self, and_true, true_and, SL, ENMB, Tryz.results44]
        simp only [↓reduceIte, reduceCtorEq, nA, nS, nM, nE, nL, nT, nB, iT, iN, iE, and_self, SR, SV, w_none, w_eq, and_true, true_and, tkS, tk0, tkN, dpS, dp0, ENMB, hb4868]
        refine regA.draw 2 [] (by kernel_rfl) ?_
        simp only [↓reduceIte, reduceCtorEq, nA, nS, nM, nE, nL, nT, nB, iT, iN, iE, and_self, SR, SV, w_none, w_eq, and_true, true_and, tkS, tk0, tkN, dpS, dp0, sepL_nil, sepL_cons, sepV_ne, sepV_d, sepV_i, true_and, Bool.and_self, ENMB, hb4868]
        exact ⟨rfl, rfl⟩
       ·cases h
        simp only [↓reduceIte, reduceCtorEq, nA, nE, nL, and_self, and_true, true_and, SL, ENMB, hb4868]
      ·refine Mir.bind fun c3538 q4869 => ?_
       replace q4869 := gt_ok q4869
       simp only [Int.reduceToNat, Int.reduceLT, Nat.sub_zero, dp0] at q4869
       refine Mir.regionA 1 [] [.ptr 1 0, .d (.int .u8 47), U, U, .d (.bool false), .ptr 1 0, .d (.bool (0 == (a0.length : Int))), .d (.bool (0 == (a0.length : Int))), .ptr 1 0, .ptr 1 0, .ptr 1 0, .d (.str a0), .ptr 1 0, .ptr 1 0, .ptr 1 1, .d (.int .i64 0), .d (.int .u8 (c3538.toNat : Int)), .d (.int .u8 47), .d (.bool ((c3538.toNat : Int) != 47)), .d (.bool ((c3538.toNat : Int) != 47)), U, U, U, U, U, U, U] ⟨[[.d (.bool false), .nil, .d (.str [])], [.d (.str a0), .d (.int .i64 0), .d (.bool false), .own 0 (List.map encApiWord []), .d (.str [])]], [(58, 0)]⟩ (by kernel_rfl) (fun e h => ?_) (fun e h => ?_)
       ·simp only [↓reduceIte, reduceCtorEq, nA, nS, nM, nE, nL, nT, nB, iT, iN, iE, and_self, SR, SV, w_none, w_eq, and_true, true_and, tkS, tk0, tkN, dpS, dp0, sepL_nil, sepL_cons, sepV_ne, sepV_d, sepV_i, true_and, Bool.and_self, ENMB, hb4868]
        refine regA.one (j := 1) (by kernel_rfl) rfl (regW.of ?_)
        simp only [↓reduceIte, reduceCtorEq, nA, nS, nM, nE, nL, nT, nB, iT, iN, iE, and_self, SR, SV, w_none, w_eq, and_true, true_and, tkS, tk0, tkN, dpS, dp0, ENMB, hb4868]
        refine SpecS.inl Tryz.func44 rfl (by kernel_rfl) (by kernel_rfl) (fun v3537 : Unit => .d (.bool (0 == (a0.length : Int)))) (fun v3537 : Unit => ⟨[[.d (.bool false), .nil, .d (.str [])], [.d (.str a0), .d (.int .i64 0), .d (.bool false), .own 0 (List.map encApiWord []), .d (.str [])]], [(58, 0)]⟩) hv4867 rfl ?_ ?_
        ·simp only [List.replicate, List.length, nS, nA, Tryz.ntmps44, SV]
         refine Mir.seqK (Mir.region fun e h => ?_)
         simp only [↓reduceIte, reduceCtorEq, nA, nS, nM, nE, nL, nT, nB, iT, iN, iE, and_self, SR, SV, ENMB]
         refine Mir.use (e := e) ?_ h
         refine Mir.seqK (Mir.regionD [] (by kernel_rfl) fun e h => ?_)
         simp only [↓reduceIte, reduceCtorEq, nA, nS, nM, nE, nL, nT, nB, iT, iN, iE, and_self, SR, SV, sepL_nil, sepL_cons, sepV_ne, sepV_d, sepV_i, true_and, Bool.and_self, fld_62_1, sz_3, ag_3, fld_62_0, sz_9, ag_9, und_9, ENMB]
         refine Mir.use (e := e) ?_ h
         refine Mir.ret fun e h => ?_
         cases h
         simp only [↓reduceIte, reduceCtorEq, nA, nE, nL, and_self, and_true, true_and, SL, ENMB, Tryz.results44]
        simp only [↓reduceIte, reduceCtorEq, nA, nS, nM, nE, nL, nT, nB, iT, iN, iE, and_self, SR, SV, w_none, w_eq, and_true, true_and, tkS, tk0, tkN, dpS, dp0, ENMB, hb4868]
        refine regA.draw 2 [] (by kernel_rfl) ?_
        simp only [↓reduceIte, reduceCtorEq, nA, nS, nM, nE, nL, nT, nB, iT, iN, iE, and_self, SR, SV, w_none, w_eq, and_true, true_and, tkS, tk0, tkN, dpS, dp0, sepL_nil, sepL_cons, sepV_ne, sepV_d, sepV_i, true_and, Bool.and_self, fld_62_0, sz_9, ag_9, fld_62_1, sz_3, ag_3, und_9, q4869, ENMB, hb4868]
        exact ⟨rfl, rfl⟩
       ·cases h
        simp only [↓reduceIte, reduceCtorEq, nA, nE, nL, and_self, and_true, true_and, SL, ENMB, hb4868]
     ·intro v3539
      refine Mir.toK (Mir.cond rfl (fun hb4871 => ?_) (fun hb4871 => ?_))
      ·refine Mir.seqK (Mir.region fun e h => ?_)
       simp only [↓reduceIte, reduceCtorEq, nA, nS, nM, nE, nL, nT, nB, iT, iN, iE, and_self, SR, SV, ENMB]
       refine Mir.use (e := e) ?_ h
       refine Mir.ret fun e h => ?_
       cases h
       simp only [↓reduceIte, reduceCtorEq, nA, nE, nL, and_self, and_true, true_and, SL, ENMB, Tryz.results43]
      ·refine Mir.skip (Mir.toK (Mir.seqK (Mir.region fun e h => ?_)))
       simp only [↓reduceIte, reduceCtorEq, nA, nS, nM, nE, nL, nT, nB, iT, iN, iE, and_self, SR, SV, fld_62_1, sz_3, ag_3, (nr rfl : IntKind.i64.wrap (0 + 1) = 1), ENMB]
       refine Mir.use (e := e) ?_ h
       refine Mir.seqK (Mir.region fun e h => ?_)
       simp only [↓reduceIte, reduceCtorEq, nA, nS, nM, nE, nL, nT, nB, iT, iN, iE, and_self, SR, SV, ENMB]
       refine Mir.use (e := e) ?_ h
       refine Mir.ret fun e h => ?_
       cases h
       simp only [↓reduceIte, reduceCtorEq, nA, nE, nL, and_self, and_true, true_and, SL, ENMB, Tryz.results43]
    simp only [↓reduceIte, reduceCtorEq, nA, nS, nM, nE, nL, nT, nB, iT, iN, iE, and_self, SR, SV, fld_62_2, sz_36, fld_36_0, sz_4, ENMB]
    refine Mir.use (e := e) ?_ h
    refine Mir.seqK (Mir.region fun e h => ?_)
    simp only [↓reduceIte, reduceCtorEq, nA, nS, nM, nE, nL, nT, nB, iT, iN, iE, and_self, SR, SV, ENMB]
    refine Mir.use (e := e) ?_ h
    refine Mir.block (Mir.loop (fun v4501 : Bool × BlockParser => [.ptr 1 0, U, U, .d (.bool v4501.1), U, U, U, U, U, U, U, U, U, U, U, U, U, U, U, U, U, U, U, U, U, U, U, U, U, U, U, U, U, U, U, U, U, U]) (fun v4501 : Bool × BlockParser => ⟨[[.d (.bool false), .nil, .d (.str [])], [.d (.str v4501.2.s), .d (.int .i64 v4501.2.at_), .d (.bool v4501.2.b.Skip), .own 0 (List.map encApiWord v4501.2.b.Words), .d (.str v4501.2.b.Comment)]], [(58, v4501.2.b.Words.length)]⟩) (fun _ => rfl) (by simp only [↓reduceIte, reduceCtorEq, nA, nE, nL, and_self, and_true, true_and, SL, ENMB]) (by simp only [↓reduceIte, reduceCtorEq, nA, nE, nL, and_self, and_true, true_and, SL, ENMB]) fun v4501 => Mir.seqK (Mir.block (Mir.seqK (Mir.block (Mir.seqK (Mir.bind fun v4792 hv6608 => Mir.region fun e h => ?_))))))
    simp only [↓reduceIte, reduceCtorEq, nA, nS, nM, nE, nL, nT, nB, iT, iN, iE, and_self, SR, SV, ENMB]
    refine SpecS.inl Tryz.func44 rfl (by kernel_rfl) (by kernel_rfl) (fun v4792 : Unit => .d (.bool (v4501.2.at_ == (v4501.2.s.length : Int)))) (fun v4792 : Unit => ⟨[[.d (.bool false), .nil, .d (.str [])], [.d (.str v4501.2.s), .d (.int .i64 v4501.2.at_), .d (.bool v4501.2.b.Skip), .own 0 (List.map encApiWord v4501.2.b.Words), .d (.str v4501.2.b.Comment)]], [(58, v4501.2.b.Words.length)]⟩) hv6608 rfl ?_ ?_
    ·simp only [List.replicate, List.length, nS, nA, Tryz.ntmps44, SV]
     refine Mir.seqK (Mir.region fun e h => ?_)
     simp only [↓reduceIte, reduceCtorEq, nA, nS, nM, nE, nL, nT, nB, iT, iN, iE, and_self, SR, SV, ENMB]
     refine Mir.use (e := e) ?_ h
     refine Mir.seqK (Mir.regionD [] (by kernel_rfl) fun e h => ?_)
     simp only [↓reduceIte, reduceCtorEq, nA, nS, nM, nE, nL, nT, nB, iT, iN, iE, and_self, SR, SV, sepL_nil, sepL_cons, sepV_ne, sepV_d, sepV_i, true_and, Bool.and_self, fld_62_1, sz_3, ag_3, fld_62_0, sz_9, ag_9, und_9, ENMB]
     refine Mir.use (e := e) ?_ h
     refine Mir.ret fun e h => ?_
     cases h
     simp only [↓reduceIte, reduceCtorEq, nA, nE, nL, and_self, and_true, true_and, SL, ENMB, Tryz.results44]
    simp only [↓reduceIte, reduceCtorEq, nA, nS, nM, nE, nL, nT, nB, iT, iN, iE, and_self, SR, SV, ENMB]
    refine Mir.use (e := e) ?_ h
    refine Mir.cond rfl (fun hb6670 => ?_) (fun hb6670 => ?_)
    ·refine Mir.seqK (Mir.seqK (Mir.region fun e h => ?_))
     simp only [↓reduceIte, reduceCtorEq, nA, nS, nM, nE, nL, nT, nB, iT, iN, iE, and_self, SR, SV, ENMB]
     refine Mir.use (e := e) ?_ h
     refine Mir.cond rfl (fun hb6672 => ?_) (fun hb6672 => ?_)
     ·refine Mir.seqK (Mir.region fun e h => ?_)
      simp only [↓reduceIte, reduceCtorEq, nA, nS, nM, nE, nL, nT, nB, iT, iN, iE, and_self, SR, SV, ENMB]
      refine Mir.use (e := e) ?_ h
      refine Mir.ret fun e h => ?_
      cases h
      simp only [↓reduceIte, reduceCtorEq, nA, nE, nL, and_self, and_true, true_and, SL, ENMB, Tryz.results27]
     ·refine Mir.skip (Mir.toK (Mir.seqK (Mir.region fun e h => ?_)))
      simp only [↓reduceIte, reduceCtorEq, nA, nS, nM, nE, nL, nT, nB, iT, iN, iE, and_self, SR, SV, ENMB]
      refine Mir.use (e := e) ?_ h
      refine Mir.ret fun e h => ?_
      cases h
      simp only [↓reduceIte, reduceCtorEq, nA, nE, nL, and_self, and_true, true_and, SL, ENMB, Tryz.results27]
    ·refine Mir.seqK (Mir.bind fun c4843 q6673 => ?_)
     replace q6673 := gt_ok q6673
     refine Mir.regionD [] (by kernel_rfl) fun e h => ?_
     simp only [↓reduceIte, reduceCtorEq, nA, nS, nM, nE, nL, nT, nB, iT, iN, iE, and_self, SR, SV, sepL_nil, sepL_cons, sepV_ne, sepV_d, sepV_i, true_and, Bool.and_self, fld_62_0, sz_9, ag_9, fld_62_1, sz_3, ag_3, und_9, q6673, ENMB]
     refine Mir.use (e := e) ?_ h
     refine Mir.cond rfl (fun hb6731 => ?_) (fun hb6731 => ?_)
     ·refine Mir.seqK (Mir.bind fun v4941 hv6787 => Mir.region fun e h => ?_)
      simp only [↓reduceIte, reduceCtorEq, nA, nS, nM, nE, nL, nT, nB, iT, iN, iE, and_self, SR, SV, ENMB]
      refine SpecS.inl Tryz.func45 rfl (by kernel_rfl) (by kernel_rfl) (fun v4941 : Int × BlockParser => .d (.int .i64 v4941.1)) (fun v4941 : Int × BlockParser => ⟨[[.d (.bool false), .nil, .d (.str [])], [.d (.str v4941.2.s), .d (.int .i64 v4941.2.at_), .d (.bool v4941.2.b.Skip), .own 0 (List.map encApiWord v4941.2.b.Words), .d (.str v4941.2.b.Comment)]], [(58, v4941.2.b.Words.length)]⟩) hv6787 rfl ?_ ?_
      ·simp only [List.replicate, List.length, nS, nA, Tryz.ntmps45, SV]
       refine Mir.seqK (Mir.region fun e h => ?_)
       simp only [↓reduceIte, reduceCtorEq, nA, nS, nM, nE, nL, nT, nB, iT, iN, iE, and_self, SR, SV, ENMB]
       refine Mir.use (e := e) ?_ h
       refine Mir.seqK (Mir.region fun e h => ?_)
       simp only [↓reduceIte, reduceCtorEq, nA, nS, nM, nE, nL, nT, nB, iT, iN, iE, and_self, SR, SV, fld_62_1, sz_3, ag_3, ENMB]
       refine Mir.use (e := e) ?_ h
       refine Mir.seqK (Mir.region fun e h => ?_)
       simp only [↓reduceIte, reduceCtorEq, nA, nS, nM, nE, nL, nT, nB, iT, iN, iE, and_self, SR, SV, fld_62_1, sz_3, ag_3, ENMB]
       refine Mir.use (e := e) ?_ h
       refine Mir.seqK (Mir.joinO (fun v4962 : Int => [.ptr 1 0, U, U, .d (.int .i64 v4501.2.at_), U, U, U, U, U, U, U, U, U, U, U, U, U, U, U, U, U, U, U, U, U, U, U, U, U, U, U, U, U, U, U, U, U, U, U, U, U, U, U, U, U, U, U, U, U, U, U, U, U, U, U, U, U, U, U, U, U, U, U, U, U, U, U, U, U, U, U]) (fun v4962 : Int => ⟨[[.d (.bool false), .nil, .d (.str [])], [.d (.str v4501.2.s), .d (.int .i64 v4962), .d (.bool v4501.2.b.Skip), .own 0 (List.map encApiWord v4501.2.b.Words), .d (.str v4501.2.b.Comment)]], [(58, v4501.2.b.Words.length)]⟩) (fun _ => rfl) ?_ ?_)
       ·refine Mir.block (Mir.loop (fun v4978 : Int => [.ptr 1 0, U, U, .d (.int .i64 v4501.2.at_), U, U, U, U, U, U, U, U, U, U, U, U, U, U, U, U, U, U, U, U, U, U, U, U, U, U, U, U, U, U, U, U, U, U, U, U, U, U, U, U, U, U, U, U, U, U, U, U, U, U, U, U, U, U, U, U, U, U, U, U, U, U, U, U, U, U, U]) (fun v4978 : Int => ⟨[[.d (.bool false), .nil, .d (.str [])], [.d (.str v4501.2.s), .d (.int .i64 v4978), .d (.bool v4501.2.b.Skip), .own 0 (List.map encApiWord v4501.2.b.Words), .d (.str v4501.2.b.Comment)]], [(58, v4501.2.b.Words.length)]⟩) (fun _ => rfl) (by simp only [↓reduceIte, reduceCtorEq, nA, nE, nL, and_self, and_true, true_and, SL, ENMB]) (by simp only [↓reduceIte, reduceCtorEq, nA, nE, nL, and_self, and_true, true_and, SL, ENMB]) fun v4978 => Mir.seqK (Mir.seqK (Mir.joinO (fun v4982 : Bool => [.ptr 1 0, U, U, .d (.int .i64 v4501.2.at_), U, U, U, U, U, U, U, U, U, U, U, U, U, U, U, U, U, U, U, U, U, U, U, U, U, U, .d (.bool v4982), U, U, U, U, U, U, U, U, U, U, U, U, U, U, U, U, U, U, U, U, U, U, U, U, U, U, U, U, U, U, U, U, U, U, U, U, U, U, U, U]) (fun v4982 : Bool => ⟨[[.d (.bool false), .nil, .d (.str [])], [.d (.str v4501.2.s), .d (.int .i64 v4978), .d (.bool v4501.2.b.Skip), .own 0 (List.map encApiWord v4501.2.b.Words), .d (.str v4501.2.b.Comment)]], [(58, v4501.2.b.Words.length)]⟩) (fun _ => rfl) ?_ ?_)))
        ·refine Mir.bind fun v4979 hv6822 => Mir.ite (fun hb6823 => ?_) (fun hb6823 => ?_)
         ·refine Mir.regionA 1 [] [.ptr 1 0, U, U, .d (.int .i64 v4501.2.at_), U, U, U, U, U, U, U, U, U, U, U, U, .ptr 1 0, .d (.bool (v4978 == (v4501.2.s.length : Int))), .d (.bool (!(v4978 == (v4501.2.s.length : Int)))), .d (.bool (!(v4978 == (v4501.2.s.length : Int)))), .skip, .skip, .skip, .skip, .skip, .skip, .skip, .skip, .skip, .skip, .d (.bool false), U, U, U, U, U, U, U, U, U, U, U, U, U, U, U, U, U, U, U, U, U, U, U, U, U, U, U, U, U, U, U, U, U, U, U, U, U, U, U, U] ⟨[[.d (.bool false), .nil, .d (.str [])], [.d (.str v4501.2.s), .d (.int .i64 v4978), .d (.bool v4501.2.b.Skip), .own 0 (List.map encApiWord v4501.2.b.Words), .d (.str v4501.2.b.Comment)]], [(58, v4501.2.b.Words.length)]⟩ (by kernel_rfl) (fun e h => ?_) (fun e h => ?_)
          ·simp only [↓reduceIte, reduceCtorEq, nA, nS, nM, nE, nL, nT, nB, iT, iN, iE, and_self, SR, SV, w_none, w_eq, and_true, true_and, tkS, tk0, tkN, dpS, dp0, sepL_nil, sepL_cons, sepV_ne, sepV_d, sepV_i, true_and, Bool.and_self, ENMB, hb6823]
           refine regA.one (j := 1) (by kernel_rfl) rfl (regW.of ?_)
           simp only [↓reduceIte, reduceCtorEq, nA, nS, nM, nE, nL, nT, nB, iT, iN, iE, and_self, SR, SV, w_none, w_eq, and_true, true_and, tkS, tk0, tkN, dpS, dp0, ENMB, hb6823]
           refine SpecS.inl Tryz.func44 rfl (by kernel_rfl) (by kernel_rfl) (fun v4979 : Unit => .d (.bool (v4978 == (v4501.2.s.length : Int)))) (fun v4979 : Unit => ⟨[[.d (.bool false), .nil, .d (.str [])], [.d (.str v4501.2.s), .d (.int .i64 v4978), .d (.bool v4501.2.b.Skip), .own 0 (List.map encApiWord v4501.2.b.Words), .d (.str v4501.2.b.Comment)]], [(58, v4501.2.b.Words.length)]⟩) hv6822 rfl ?_ ?_
           ·simp only [List.replicate, List.length, nS, nA, Tryz.ntmps44, SV]
            refine Mir.seqK (Mir.region fun e h => ?_)
            simp only [↓reduceIte, reduceCtorEq, nA, nS, nM, nE, nL, nT, nB, iT, iN, iE, and_self, SR, SV, ENMB]
            refine Mir.use (e := e) ?_ h
            refine Mir.seqK (Mir.regionD [] (by kernel_rfl) fun e h => ?_)
            simp only [↓reduceIte, reduceCtorEq, nA, nS, nM, nE, nL, nT, nB, iT, iN, iE, and_self, SR, SV, sepL_nil, sepL_cons, sepV_ne, sepV_d, sepV_i, true_and, Bool.and_self, fld_62_1, sz_3, ag_3, fld_62_0, sz_9, ag_9, und_9, ENMB]
            refine Mir.use (e := e) ?_ h
            refine Mir.ret fun e h => ?_
            cases h
            simp only [↓reduceIte, reduceCtorEq, nA, nE, nL, and_self, and_true, true_and, SL, ENMB, Tryz.results44]
           simp only [↓reduceIte, reduceCtorEq, nA, nS, nM, nE, nL, nT, nB, iT, iN, iE, and_self, SR, SV, w_none, w_eq, and_true, true_and, tkS, tk0, tkN, dpS, dp0, ENMB, hb6823]
           refine regA.draw 2 [] (by kernel_rfl) ?_
           simp only [↓reduceIte, reduceCtorEq, nA, nS, nM, nE, nL, nT, nB, iT, iN, iE, and_self, SR, SV, w_none, w_eq, and_true, true_and, tkS, tk0, tkN, dpS, dp0, sepL_nil, sepL_cons, sepV_ne, sepV_d, sepV_i, true_and, Bool.and_self, ENMB, hb6823]
           exact ⟨rfl, rfl⟩
          ·cases h
           simp only [↓reduceIte, reduceCtorEq, nA, nE, nL, and_self, and_true, true_and, SL, ENMB, hb6823]
         ·refine Mir.bind fun c4980 q6824 => ?_
          replace q6824 := gt_ok q6824
          refine Mir.bind fun y4981 hy6825 => Mir.regionA 1 [] [.ptr 1 0, U, U, .d (.int .i64 v4501.2.at_), U, U, U, U, U, U, U, U, U, U, U, U, .ptr 1 0, .d (.bool (v4978 == (v4501.2.s.length : Int))), .d (.bool (!(v4978 == (v4501.2.s.length : Int)))), .d (.bool (!(v4978 == (v4501.2.s.length : Int)))), .ptr 1 0, .ptr 1 0, .ptr 1 0, .d (.str v4501.2.s), .ptr 1 0, .ptr 1 0, .ptr 1 1, .d (.int .i64 v4978), .d (.int .u8 (c4980.toNat : Int)), .d (.bool y4981), .d (.bool y4981), U, U, U, U, U, U, U, U, U, U, U, U, U, U, U, U, U, U, U, U, U, U, U, U, U, U, U, U, U, U, U, U, U, U, U, U, U, U, U, U] ⟨[[.d (.bool false), .nil, .d (.str [])], [.d (.str v4501.2.s), .d (.int .i64 v4978), .d (.bool v4501.2.b.Skip), .own 0 (List.map encApiWord v4501.2.b.Words), .d (.str v4501.2.b.Comment)]], [(58, v4501.2.b.Words.length)]⟩ (by kernel_rfl) (fun e h => ?_) (fun e h => ?_)
          ·simp only [↓reduceIte, reduceCtorEq, nA, nS, nM, nE, nL, nT, nB, iT, iN, iE, and_self, SR, SV, w_none, w_eq, and_true, true_and, tkS, tk0, tkN, dpS, dp0, sepL_nil, sepL_cons, sepV_ne, sepV_d, sepV_i, true_and, Bool.and_self, ENMB, hb6823]
           refine regA.one (j := 1) (by kernel_rfl) rfl (regW.of ?_)
           simp only [↓reduceIte, reduceCtorEq, nA, nS, nM, nE, nL, nT, nB, iT, iN, iE, and_self, SR, SV, w_none, w_eq, and_true, true_and, tkS, tk0, tkN, dpS, dp0, ENMB, hb6823]
           refine SpecS.inl Tryz.func44 rfl (by kernel_rfl) (by kernel_rfl) (fun v4979 : Unit => .d (.bool (v4978 == (v4501.2.s.length : Int)))) (fun v4979 : Unit => ⟨[[.d (.bool false), .nil, .d (.str [])], [.d (.str v4501.2.s), .d (.int .i64 v4978), .d (.bool v4501.2.b.Skip), .own 0 (List.map encApiWord v4501.2.b.Words), .d (.str v4501.2.b.Comment)]], [(58, v4501.2.b.Words.length)]⟩) hv6822 rfl ?_ ?_
           ·simp only [List.replicate, List.length, nS, nA, Tryz.ntmps44, SV]
            refine Mir.seqK (Mir.region fun e h => ?_)
            simp only [↓reduceIte, reduceCtorEq, nA, nS, nM, nE, nL, nT, nB, iT, iN, iE, and_self, SR, SV, ENMB]
            refine Mir.use (e := e) ?_ h
            refine Mir.seqK (Mir.regionD [] (by kernel_rfl) fun e h => ?_)
            simp only [↓reduceIte, reduceCtorEq, nA, nS, nM, nE, nL, nT, nB, iT, iN, iE, and_self, SR, SV, sepL_nil, sepL_cons, sepV_ne, sepV_d, sepV_i, true_and, Bool.and_self, fld_62_1, sz_3, ag_3, fld_62_0, sz_9, ag_9, und_9, ENMB]
            refine Mir.use (e := e) ?_ h
            refine Mir.ret fun e h => ?_
            cases h
            simp only [↓reduceIte, reduceCtorEq, nA, nE, nL, and_self, and_true, true_and, SL, ENMB, Tryz.results44]
           simp only [↓reduceIte, reduceCtorEq, nA, nS, nM, nE, nL, nT, nB, iT, iN, iE, and_self, SR, SV, w_none, w_eq, and_true, true_and, tkS, tk0, tkN, dpS, dp0, ENMB, hb6823]
           refine regA.draw 2 [] (by kernel_rfl) ?_
           simp only [↓reduceIte, reduceCtorEq, nA, nS, nM, nE, nL, nT, nB, iT, iN, iE, and_self, SR, SV, w_none, w_eq, and_true, true_and, tkS, tk0, tkN, dpS, dp0, sepL_nil, sepL_cons, sepV_ne, sepV_d, sepV_i, true_and, Bool.and_self, fld_62_0, sz_9, ag_9, fld_62_1, sz_3, ag_3, und_9, q6824, ENMB, hb6823]
           refine Spec.by (bk_printable_spec hy6825) (by simp only [↓reduceIte, reduceCtorEq, nA, nE, nL, and_self, and_true, true_and, SL, ENMB, hb6823]) ?_
           simp only [↓reduceIte, reduceCtorEq, nA, nS, nM, nE, nL, nT, nB, iT, iN, iE, and_self, SR, SV, w_none, w_eq, and_true, true_and, tkS, tk0, tkN, dpS, dp0, sepL_nil, sepL_cons, sepV_ne, sepV_d, sepV_i, true_and, Bool.and_self, ENMB, hb6823]
           exact ⟨rfl, rfl⟩
          ·cases h
           simp only [↓reduceIte, reduceCtorEq, nA, nE, nL, and_self, and_true, true_and, SL, ENMB, hb6823]
        ·intro v4982
         refine Mir.toK (Mir.cond rfl (fun hb6827 => ?_) (fun hb6827 => ?_))
         ·refine Mir.skip (Mir.toK (Mir.block (Mir.region fun e h => ?_)))
          simp only [↓reduceIte, reduceCtorEq, nA, nS, nM, nE, nL, nT, nB, iT, iN, iE, and_self, SR, SV, fld_62_1, sz_3, ag_3, ENMB]
          cases h
          simp only [↓reduceIte, reduceCtorEq, nA, nE, nL, and_self, and_true, true_and, SL, ENMB, Tryz.results45]
         ·refine Mir.exit fun e h => ?_
          cases h
          simp only [↓reduceIte, reduceCtorEq, nA, nE, nL, and_self, and_true, true_and, SL, ENMB, Tryz.results45]
       ·intro v4962
        refine Mir.toK (Mir.seqK (Mir.bind fun s4983 q6828 => ?_))
        replace q6828 := cutL_ok q6828
        refine Mir.regionD [] (by kernel_rfl) fun e h => ?_
        simp only [↓reduceIte, reduceCtorEq, nA, nS, nM, nE, nL, nT, nB, iT, iN, iE, and_self, SR, SV, sepL_nil, sepL_cons, sepV_ne, sepV_d, sepV_i, true_and, Bool.and_self, fld_62_0, sz_9, ag_9, fld_62_1, sz_3, ag_3, und_9, q6828, Nat.le_refl, and_true, true_and, dm, tm, ENMB]
        refine Mir.use (e := e) ?_ h
        refine Mir.seqK (Mir.seqK (Mir.region fun e h => ?_))
        simp only [↓reduceIte, reduceCtorEq, nA, nS, nM, nE, nL, nT, nB, iT, iN, iE, and_self, SR, SV, und_9, ENMB]
        refine Mir.use (e := e) ?_ h
        refine Mir.cond rfl (fun hb6830 => ?_) (fun hb6830 => ?_)
        ·refine Mir.seqK (Mir.region fun e h => ?_)
         simp only [↓reduceIte, reduceCtorEq, nA, nS, nM, nE, nL, nT, nB, iT, iN, iE, and_self, SR, SV, fld_62_1, sz_3, ENMB]
         refine Mir.use (e := e) ?_ h
         refine Mir.seqK (Mir.region fun e h => ?_)
         simp only [↓reduceIte, reduceCtorEq, nA, nS, nM, nE, nL, nT, nB, iT, iN, iE, and_self, SR, SV, ENMB]
         refine Mir.use (e := e) ?_ h
         refine Mir.ret fun e h => ?_
         cases h
         simp only [↓reduceIte, reduceCtorEq, nA, nE, nL, and_self, and_true, true_and, SL, ENMB, Tryz.results45]
        ·refine Mir.skip (Mir.toK (Mir.seqK (Mir.seqK (Mir.joinO (fun v4991 : Bool × Int => [.ptr 1 0, U, U, U, .d (.str s4983), U, U, U, U, U, U, U, U, U, U, U, U, U, U, U, U, U, U, U, U, U, U, U, U, U, U, U, U, U, U, U, U, U, U, U, U, U, U, U, U, U, U, U, U, U, U, U, U, U, U, U, U, U, U, U, U, U, .d (.bool v4991.1), U, U, U, U, U, U, U, U]) (fun v4991 : Bool × Int => ⟨[[.d (.bool false), .nil, .d (.str [])], [.d (.str v4501.2.s), .d (.int .i64 v4991.2), .d (.bool v4501.2.b.Skip), .own 0 (List.map encApiWord v4501.2.b.Words), .d (.str v4501.2.b.Comment)]], [(58, v4501.2.b.Words.length)]⟩) (fun _ => rfl) ?_ ?_))))
         ·refine Mir.ite (fun hb6831 => ?_) (fun hb6831 => ?_)
          ·refine Mir.region fun e h => ?_
           simp only [↓reduceIte, reduceCtorEq, nA, nS, nM, nE, nL, nT, nB, iT, iN, iE, and_self, SR, SV, ENMB, hb6831]
           cases h
           simp only [↓reduceIte, reduceCtorEq, nA, nE, nL, and_self, and_true, true_and, SL, ENMB, hb6831]
          ·refine Mir.bind fun v4987 hv6837 => Mir.region fun e h => ?_
           simp only [↓reduceIte, reduceCtorEq, nA, nS, nM, nE, nL, nT, nB, iT, iN, iE, and_self, SR, SV, ENMB, hb6831]
           refine SpecS.inl Tryz.func43 rfl (by kernel_rfl) (by kernel_rfl) (fun v4987 : Bool × Int => .d (.bool v4987.1)) (fun v4987 : Bool × Int => ⟨[[.d (.bool false), .nil, .d (.str [])], [.d (.str v4501.2.s), .d (.int .i64 v4987.2), .d (.bool v4501.2.b.Skip), .own 0 (List.map encApiWord v4501.2.b.Words), .d (.str v4501.2.b.Comment)]], [(58, v4501.2.b.Words.length)]⟩) hv6837 rfl ?_ ?_
           ·simp only [List.replicate, List.length, nS, nA, Tryz.ntmps43, SV]
            refine Mir.seqK (Mir.region fun e h => ?_)
            simp only [↓reduceIte, reduceCtorEq, nA, nS, nM, nE, nL, nT, nB, iT, iN, iE, and_self, SR, SV, ENMB]
            refine Mir.use (e := e) ?_ h
            refine Mir.seqK (Mir.seqK (Mir.joinO (fun v4990 : Bool => [.ptr 1 0, U, U, U, U, U, U, U, U, U, U, U, U, U, U, U, U, U, U, .d (.bool v4990), U, U, U, U, U, U, U]) (fun v4990 : Bool => ⟨[[.d (.bool false), .nil, .d (.str [])], [.d (.str v4501.2.s), .d (.int .i64 v4962), .d (.bool v4501.2.b.Skip), .own 0 (List.map encApiWord v4501.2.b.Words), .d (.str v4501.2.b.Comment)]], [(58, v4501.2.b.Words.length)]⟩) (fun _ => rfl) ?_ ?_))
            ·refine Mir.bind fun v4988 hv6838 => Mir.ite (fun hb6839 => ?_) (fun hb6839 => ?_)
             ·refine Mir.regionA 1 [] [.ptr 1 0, .d (.int .u8 41), U, U, .d (.bool false), .ptr 1 0, .d (.bool (v4962 == (v4501.2.s.length : Int))), .d (.bool (v4962 == (v4501.2.s.length : Int))), .skip, .skip, .skip, .skip, .skip, .skip, .skip, .skip, .skip, .skip, .skip, .d (.bool true), U, U, U, U, U, U, U] ⟨[[.d (.bool false), .nil, .d (.str [])], [.d (.str v4501.2.s), .d (.int .i64 v4962), .d (.bool v4501.2.b.Skip), .own 0 (List.map encApiWord v4501.2.b.Words), .d (.str v4501.2.b.Comment)]], [(58, v4501.2.b.Words.length)]⟩ (by kernel_rfl) (fun e h => ?_) (fun e h => ?_)
              ·simp only [↓reduceIte, reduceCtorEq, nA, nS, nM, nE, nL, nT, nB, iT, iN, iE, and_self, SR, SV, w_none, w_eq, and_true, true_and, tkS, tk0, tkN, dpS, dp0, sepL_nil, sepL_cons, sepV_ne, sepV_d, sepV_i, true_and, Bool.and_self, ENMB, hb6839]
               refine regA.one (j := 1) (by kernel_rfl) rfl (regW.of ?_)
               simp only [↓reduceIte, reduceCtorEq, nA, nS, nM, nE, nL, nT, nB, iT, iN, iE, and_self, SR, SV, w_none, w_eq, and_true, true_and, tkS, tk0, tkN, dpS, dp0, ENMB, hb6839]
               refine SpecS.inl Tryz.func44 rfl (by kernel_rfl) (by kernel_rfl) (fun v4988 : Unit => .d (.bool (v4962 == (v4501.2.s.length : Int)))) (fun v4988 : Unit => ⟨[[.d (.bool false), .nil, .d (.str [])], [.d (.str v4501.2.s), .d (.int .i64 v4962), .d (.bool v4501.2.b.Skip), .own 0 (List.map encApiWord v4501.2.b.Words), .d (.str v4501.2.b.Comment)]], [(58, v4501.2.b.Words.length)]⟩) hv6838 rfl ?_ ?_
               ·simp only [List.replicate, List.length, nS, nA, Tryz.ntmps44, SV]
                refine Mir.seqK (Mir.region fun e h => ?_)
                simp only [↓reduceIte, reduceCtorEq, nA, nS, nM, nE, nL, nT, nB, iT, iN, iE, and_self, SR, SV, ENMB]
                refine Mir.use (e := e) ?_ h
                refine Mir.seqK (Mir.regionD [] (by kernel_rfl) fun e h => ?_)
                simp only [↓reduceIte, reduceCtorEq, nA, nS, nM, nE, nL, nT, nB, iT, iN, iE, and_self, SR, SV, sepL_nil, sepL_cons, sepV_ne, sepV_d, sepV_i, true_and, Bool.and_self, fld_62_1, sz_3, ag_3, fld_62_0, sz_9, ag_9, und_9, ENMB]
                refine Mir.use (e := e) ?_ h
                refine Mir.ret fun e h => ?_
                cases h
                simp only [↓reduceIte, reduceCtorEq, nA, nE, nL, and_self, and_true, true_and, SL, ENMB, Tryz.results44]
               simp only [↓reduceIte, reduceCtorEq, nA, nS, nM, nE, nL, nT, nB, iT, iN, iE, and_self, SR, SV, w_none, w_eq, and_true, true_and, tkS, tk0, tkN, dpS, dp0, ENMB, hb6839]
               refine regA.draw 2 [] (by kernel_rfl) ?_
               simp only [↓reduceIte, reduceCtorEq, nA, nS, nM, nE, nL, nT, nB, iT, iN, iE, and_self, SR, SV, w_none, w_eq, and_true, true_and, tkS, tk0, tkN, dpS, dp0, sepL_nil, sepL_cons, sepV_ne, sepV_d, sepV_i, true_and, Bool.and_self, ENMB, hb6839]
               exact ⟨rfl, rfl⟩
              ·cases h
               simp only [↓reduceIte, reduceCtorEq, nA, nE, nL, and_self, and_true, true_and, SL, ENMB, hb6839]
             ·refine Mir.bind fun c4989 q6840 => ?_
              replace q6840 := gt_ok q6840
              refine Mir.regionA 1 [] [.ptr 1 0, .d (.int .u8 41), U, U, .d (.bool false), .ptr 1 0, .d (.bool (v4962 == (v4501.2.s.length : Int))), .d (.bool (v4962 == (v4501.2.s.length : Int))), .ptr 1 0, .ptr 1 0, .ptr 1 0, .d (.str v4501.2.s), .ptr 1 0, .ptr 1 0, .ptr 1 1, .d (.int .i64 v4962), .d (.int .u8 (c4989.toNat : Int)), .d (.int .u8 41), .d (.bool ((c4989.toNat : Int) != 41)), .d (.bool ((c4989.toNat : Int) != 41)), U, U, U, U, U, U, U] ⟨[[.d (.bool false), .nil, .d (.str [])], [.d (.str v4501.2.s), .d (.int .i64 v4962), .d (.bool v4501.2.b.Skip), .own 0 (List.map encApiWord v4501.2.b.Words), .d (.str v4501.2.b.Comment)]], [(58, v4501.2.b.Words.length)]⟩ (by kernel_rfl) (fun e h => ?_) (fun e h => ?_)
              ·simp only [↓reduceIte, reduceCtorEq, nA, nS, nM, nE, nL, nT, nB, iT, iN, iE, and_self, SR, SV, w_none, w_eq, and_true, true_and, tkS, tk0, tkN, dpS, dp0, sepL_nil, sepL_cons, sepV_ne, sepV_d, sepV_i, true_and, Bool.and_self, ENMB, hb6839]
               refine regA.one (j := 1) (by kernel_rfl) rfl (regW.of ?_)
               simp only [↓reduceIte, reduceCtorEq, nA, nS, nM, nE, nL, nT, nB, iT, iN, iE, and_self, SR, SV, w_none, w_eq, and_true, true_and, tkS, tk0, tkN, dpS, dp0, ENMB, hb6839]
               refine SpecS.inl Tryz.func44 rfl (by kernel_rfl) (by kernel_rfl) (fun v4988 : Unit => .d (.bool (v4962 == (v4501.2.s.length : Int)))) (fun v4988 : Unit => ⟨[[.d (.bool false), .nil, .d (.str [])], [.d (.str v4501.2.s), .d (.int .i64 v4962), .d (.bool v4501.2.b.Skip), .own 0 (List.map encApiWord v4501.2.b.Words), .d (.str v4501.2.b.Comment)]], [(58, v4501.2.b.Words.length)]⟩) hv6838 rfl ?_ ?_
               ·simp only [List.replicate, List.length, nS, nA, Tryz.ntmps44, SV]
                refine Mir.seqK (Mir.region fun e h => ?_)
                simp only [↓reduceIte, reduceCtorEq, nA, nS, nM, nE, nL, nT, nB, iT, iN, iE, and_self, SR, SV, ENMB]
                refine Mir.use (e := e) ?_ h
                refine Mir.seqK (Mir.regionD [] (by kernel_rfl) fun e h => ?_)
                simp only [↓reduceIte, reduceCtorEq, nA, nS, nM, nE, nL, nT, nB, iT, iN, iE, and_self, SR, SV, sepL_nil, sepL_cons, sepV_ne, sepV_d, sepV_i, true_and, Bool.and_self, fld_62_1, sz_3, ag_3, fld_62_0, sz_9, ag_9, und_9, ENMB]
                refine Mir.use (e := e) ?_ h
                refine Mir.ret fun e h => ?_
                cases h
                simp only [↓reduceIte, reduceCtorEq, nA, nE, nL, and_self, and_true, true_and, SL, ENMB, Tryz.results44]
               simp only [↓reduceIte, reduceCtorEq, nA, nS, nM, nE, nL, nT, nB, iT, iN, iE, and_self, SR, SV, w_none, w_eq, and_true, true_and, tkS, tk0, tkN, dpS, dp0, ENMB, hb6839]
               refine regA.draw 2 [] (by kernel_rfl) ?_
               simp only [↓reduceIte, reduceCtorEq, nA, nS, nM, nE, nL, nT, nB, iT, iN, iE, and_self, SR, SV, w_none, w_eq, and_true, true_and, tkS, tk0, tkN, dpS, dp0, sepL_nil, sepL_cons, sepV_ne, sepV_d, sepV_i, true_and, Bool.and_self, fld_62_0, sz_9, ag_9, fld_62_1, sz_3, ag_3, und_9, q6840, ENMB, hb6839]
               exact ⟨rfl, rfl⟩
              ·cases h
               simp only [↓reduceIte, reduceCtorEq, nA, nE, nL, and_self, and_true, true_and, SL, ENMB, hb6839]
            ·intro v4990
             refine Mir.toK (Mir.cond rfl (fun hb6842 => ?_) (fun hb6842 => ?_))
             ·refine Mir.seqK (Mir.region fun e h => ?_)
              simp only [↓reduceIte, reduceCtorEq, nA, nS, nM, nE, nL, nT, nB, iT, iN, iE, and_self, SR, SV, ENMB]
              refine Mir.use (e := e) ?_ h
              refine Mir.ret fun e h => ?_
              cases h
              simp only [↓reduceIte, reduceCtorEq, nA, nE, nL, and_self, and_true, true_and, SL, ENMB, Tryz.results43]
             ·refine Mir.skip (Mir.toK (Mir.seqK (Mir.region fun e h => ?_)))
              simp only [↓reduceIte, reduceCtorEq, nA, nS, nM, nE, nL, nT, nB, iT, iN, iE, and_self, SR, SV, fld_62_1, sz_3, ag_3, ENMB]
              refine Mir.use (e := e) ?_ h
              refine Mir.seqK (Mir.region fun e h => ?_)
              simp only [↓reduceIte, reduceCtorEq, nA, nS, nM, nE, nL, nT, nB, iT, iN, iE, and_self, SR, SV, ENMB]
              refine Mir.use (e := e) ?_ h
              refine Mir.ret fun e h => ?_
              cases h
              simp only [↓reduceIte, reduceCtorEq, nA, nE, nL, and_self, and_true, true_and, SL, ENMB, Tryz.results43]
           simp only [↓reduceIte, reduceCtorEq, nA, nS, nM, nE, nL, nT, nB, iT, iN, iE, and_self, SR, SV, ENMB, hb6831]
           cases h
           simp only [↓reduceIte, reduceCtorEq, nA, nE, nL, and_self, and_true, true_and, SL, ENMB, hb6831]
         ·intro v4991
          refine Mir.toK (Mir.cond rfl (fun hb6844 => ?_) (fun hb6844 => ?_))
          ·refine Mir.seqK (Mir.region fun e h => ?_)
           simp only [↓reduceIte, reduceCtorEq, nA, nS, nM, nE, nL, nT, nB, iT, iN, iE, and_self, SR, SV, ENMB]
           refine Mir.use (e := e) ?_ h
           refine Mir.ret fun e h => ?_
           cases h
           simp only [↓reduceIte, reduceCtorEq, nA, nE, nL, and_self, and_true, true_and, SL, ENMB, Tryz.results45]
          ·refine Mir.skip (Mir.toK (Mir.seqK (Mir.region fun e h => ?_)))
           simp only [↓reduceIte, reduceCtorEq, nA, nS, nM, nE, nL, nT, nB, iT, iN, iE, and_self, SR, SV, fld_62_2, sz_36, fld_36_2, sz_9, ENMB]
           refine Mir.use (e := e) ?_ h
           refine Mir.seqK (Mir.seqK (Mir.bind fun v4992 hv6845 => Mir.region fun e h => ?_))
           simp only [↓reduceIte, reduceCtorEq, nA, nS, nM, nE, nL, nT, nB, iT, iN, iE, and_self, SR, SV, ENMB]
           refine SpecS.inl Tryz.func44 rfl (by kernel_rfl) (by kernel_rfl) (fun v4992 : Unit => .d (.bool (v4991.2 == (v4501.2.s.length : Int)))) (fun v4992 : Unit => ⟨[[.d (.bool false), .nil, .d (.str [])], [.d (.str v4501.2.s), .d (.int .i64 v4991.2), .d (.bool v4501.2.b.Skip), .own 0 (List.map encApiWord v4501.2.b.Words), .d (.str s4983)]], [(58, v4501.2.b.Words.length)]⟩) hv6845 rfl ?_ ?_
           ·simp only [List.replicate, List.length, nS, nA, Tryz.ntmps44, SV]
            refine Mir.seqK (Mir.region fun e h => ?_)
            simp only [↓reduceIte, reduceCtorEq, nA, nS, nM, nE, nL, nT, nB, iT, iN, iE, and_self, SR, SV, ENMB]
            refine Mir.use (e := e) ?_ h
            refine Mir.seqK (Mir.regionD [] (by kernel_rfl) fun e h => ?_)
            simp only [↓reduceIte, reduceCtorEq, nA, nS, nM, nE, nL, nT, nB, iT, iN, iE, and_self, SR, SV, sepL_nil, sepL_cons, sepV_ne, sepV_d, sepV_i, true_and, Bool.and_self, fld_62_1, sz_3, ag_3, fld_62_0, sz_9, ag_9, und_9, ENMB]
            refine Mir.use (e := e) ?_ h
            refine Mir.ret fun e h => ?_
            cases h
            simp only [↓reduceIte, reduceCtorEq, nA, nE, nL, and_self, and_true, true_and, SL, ENMB, Tryz.results44]
           simp only [↓reduceIte, reduceCtorEq, nA, nS, nM, nE, nL, nT, nB, iT, iN, iE, and_self, SR, SV, ENMB]
           refine Mir.use (e := e) ?_ h
           refine Mir.cond rfl (fun hb6847 => ?_) (fun hb6847 => ?_)
           ·refine Mir.seqK (Mir.region fun e h => ?_)
            simp only [↓reduceIte, reduceCtorEq, nA, nS, nM, nE, nL, nT, nB, iT, iN, iE, and_self, SR, SV, ENMB]
            refine Mir.use (e := e) ?_ h
            refine Mir.ret fun e h => ?_
            cases h
            simp only [↓reduceIte, reduceCtorEq, nA, nE, nL, and_self, and_true, true_and, SL, ENMB, Tryz.results45]
           ·refine Mir.skip (Mir.toK (Mir.seqK (Mir.region fun e h => ?_)))
            simp only [↓reduceIte, reduceCtorEq, nA, nS, nM, nE, nL, nT, nB, iT, iN, iE, and_self, SR, SV, ENMB]
            refine Mir.use (e := e) ?_ h
            refine Mir.ret fun e h => ?_
            cases h
            simp only [↓reduceIte, reduceCtorEq, nA, nE, nL, and_self, and_true, true_and, SL, ENMB, Tryz.results45]
      simp only [↓reduceIte, reduceCtorEq, nA, nS, nM, nE, nL, nT, nB, iT, iN, iE, and_self, SR, SV, ENMB]
      refine Mir.use (e := e) ?_ h
      refine Mir.ret fun e h => ?_
      cases h
      simp only [↓reduceIte, reduceCtorEq, nA, nE, nL, and_self, and_true, true_and, SL, ENMB, Tryz.results27]
     ·refine Mir.skip (Mir.toB (Mir.toK (Mir.seqK (Mir.seqK (Mir.bind fun v5025 hv6931 => Mir.region fun e h => ?_)))))
      simp only [↓reduceIte, reduceCtorEq, nA, nS, nM, nE, nL, nT, nB, iT, iN, iE, and_self, SR, SV, ENMB]
      refine SpecS.inl Tryz.func46 rfl (by kernel_rfl) (by kernel_rfl) (fun v5025 : Int × BlockParser => .d (.int .i64 v5025.1)) (fun v5025 : Int × BlockParser => ⟨[[.d (.bool false), .nil, .d (.str [])], [.d (.str v5025.2.s), .d (.int .i64 v5025.2.at_), .d (.bool v5025.2.b.Skip), .own 0 (List.map encApiWord v5025.2.b.Words), .d (.str v5025.2.b.Comment)]], [(58, v5025.2.b.Words.length)]⟩) hv6931 rfl ?_ ?_
      ·simp only [List.replicate, List.length, nS, nA, Tryz.ntmps46, SV]
       refine Mir.seqK (Mir.region fun e h => ?_)
       simp only [↓reduceIte, reduceCtorEq, nA, nS, nM, nE, nL, nT, nB, iT, iN, iE, and_self, SR, SV, ENMB]
       refine Mir.use (e := e) ?_ h
       refine Mir.seqK (Mir.bind fun c5026 q6932 => ?_)
       replace q6932 := gt_ok q6932
       refine Mir.regionD [] (by kernel_rfl) fun e h => ?_
       simp only [↓reduceIte, reduceCtorEq, nA, nS, nM, nE, nL, nT, nB, iT, iN, iE, and_self, SR, SV, sepL_nil, sepL_cons, sepV_ne, sepV_d, sepV_i, true_and, Bool.and_self, fld_62_0, sz_9, ag_9, fld_62_1, sz_3, ag_3, und_9, q6932, ENMB]
       refine Mir.use (e := e) ?_ h
       refine Mir.seqK (Mir.seqK (Mir.joinV [.ptr 1 0, U, U, .d (.int .u8 (c5026.toNat : Int)), U, U, U, U, U, U, U, U, U, U, U, U, U, U, U, U, U, .d (.bool ((decide ((c5026.toNat : Int) < 65)) || (decide ((c5026.toNat : Int) > 90)))), U, U, U, U, U, U, U, U, U, U, U, U, U, U, U, U, U, U, U, U, U, U, U, U, U, U, U, U, U, U, U, U, U, U, U, U, U, U, U, U, U, U, U, U, U, U, U, U, U, U, U, U, U, U, U, U, U, U, U, U, U, U, U, U, U, U, U, U, U, U, U, U, U, U, U, U, U, U, U, U, U, U, U, U, U, U, U, U, U, U, U, U, U] ⟨[[.d (.bool false), .nil, .d (.str [])], [.d (.str v4501.2.s), .d (.int .i64 v4501.2.at_), .d (.bool v4501.2.b.Skip), .own 0 (List.map encApiWord v4501.2.b.Words), .d (.str v4501.2.b.Comment)]], [(58, v4501.2.b.Words.length)]⟩ rfl ?_ ?_))
       ·refine SWs.region ?_
        rcases Bool.eq_false_or_eq_true (decide ((c5026.toNat : Int) < 65)) with hb6933 | hb6933
        ·simp only [↓reduceIte, reduceCtorEq, nA, nS, nM, nE, nL, nT, nB, iT, iN, iE, and_self, SR, SV, SL, PB, hb6933, ENMB]
        ·simp only [↓reduceIte, reduceCtorEq, nA, nS, nM, nE, nL, nT, nB, iT, iN, iE, and_self, SR, SV, SL, PB, hb6933, ENMB]
       ·refine Mir.toK (Mir.cond rfl (fun hb6935 => ?_) (fun hb6935 => ?_))
        ·refine Mir.seqK (Mir.region fun e h => ?_)
         simp only [↓reduceIte, reduceCtorEq, nA, nS, nM, nE, nL, nT, nB, iT, iN, iE, and_self, SR, SV, ENMB]
         refine Mir.use (e := e) ?_ h
         refine Mir.ret fun e h => ?_
         cases h
         simp only [↓reduceIte, reduceCtorEq, nA, nE, nL, and_self, and_true, true_and, SL, ENMB, Tryz.results46]
        ·refine Mir.skip (Mir.toK (Mir.seqK (Mir.seqK (Mir.region fun e h => ?_))))
         simp only [↓reduceIte, reduceCtorEq, nA, nS, nM, nE, nL, nT, nB, iT, iN, iE, and_self, SR, SV, fld_62_2, sz_36, fld_36_1, sz_34, ag_34, und_34, ENMB]
         refine Mir.use (e := e) ?_ h
         refine Mir.cond rfl (fun hb6937 => ?_) (fun hb6937 => ?_)
         ·refine Mir.seqK (Mir.region fun e h => ?_)
          simp only [↓reduceIte, reduceCtorEq, nA, nS, nM, nE, nL, nT, nB, iT, iN, iE, and_self, SR, SV, ENMB]
          refine Mir.use (e := e) ?_ h
          refine Mir.ret fun e h => ?_
          cases h
          simp only [↓reduceIte, reduceCtorEq, nA, nE, nL, and_self, and_true, true_and, SL, ENMB, Tryz.results46]
         ·refine Mir.skip (Mir.toK (Mir.seqK (Mir.region fun e h => ?_)))
          simp only [↓reduceIte, reduceCtorEq, nA, nS, nM, nE, nL, nT, nB, iT, iN, iE, and_self, SR, SV, fld_62_1, sz_3, ag_3, ENMB]
          refine Mir.use (e := e) ?_ h
          refine Mir.seqK (Mir.joinO (fun v5041 : Int => [.ptr 1 0, U, U, .d (.int .u8 (c5026.toNat : Int)), .d (.int .i64 v5041), U, U, U, U, U, U, U, U, U, U, U, U, U, U, U, U, U, U, U, U, U, U, U, U, U, U, U, U, U, U, U, U, U, U, U, U, U, U, U, U, U, U, U, U, U, U, U, U, U, U, U, U, U, U, U, U, U, U, U, U, U, U, U, U, U, U, U, U, U, U, U, U, U, U, U, U, U, U, U, U, U, U, U, U, U, U, U, U, U, U, U, U, U, U, U, U, U, U, U, U, U, U, U, U, U, U, U, U, U, U]) (fun v5041 : Int => ⟨[[.d (.bool false), .nil, .d (.str [])], [.d (.str v4501.2.s), .d (.int .i64 v4501.2.at_), .d (.bool v4501.2.b.Skip), .own 0 (List.map encApiWord v4501.2.b.Words), .d (.str v4501.2.b.Comment)]], [(58, v4501.2.b.Words.length)]⟩) (fun _ => rfl) ?_ ?_)
          ·refine Mir.block (Mir.loop (fun v5053 : Int => [.ptr 1 0, U, U, .d (.int .u8 (c5026.toNat : Int)), .d (.int .i64 v5053), U, U, U, U, U, U, U, U, U, U, U, U, U, U, U, U, U, U, U, U, U, U, U, U, U, U, U, U, U, U, U, U, U, U, U, U, U, U, U, U, U, U, U, U, U, U, U, U, U, U, U, U, U, U, U, U, U, U, U, U, U, U, U, U, U, U, U, U, U, U, U, U, U, U, U, U, U, U, U, U, U, U, U, U, U, U, U, U, U, U, U, U, U, U, U, U, U, U, U, U, U, U, U, U, U, U, U, U, U, U]) (fun v5053 : Int => ⟨[[.d (.bool false), .nil, .d (.str [])], [.d (.str v4501.2.s), .d (.int .i64 v4501.2.at_), .d (.bool v4501.2.b.Skip), .own 0 (List.map encApiWord v4501.2.b.Words), .d (.str v4501.2.b.Comment)]], [(58, v4501.2.b.Words.length)]⟩) (fun _ => rfl) (by simp only [↓reduceIte, reduceCtorEq, nA, nE, nL, and_self, and_true, true_and, SL, ENMB]) (by simp only [↓reduceIte, reduceCtorEq, nA, nE, nL, and_self, and_true, true_and, SL, ENMB]) fun v5053 => Mir.seqK (Mir.seqK (Mir.joinO (fun v5055 : Bool => [.ptr 1 0, U, U, .d (.int .u8 (c5026.toNat : Int)), .d (.int .i64 v5053), U, U, U, U, U, U, U, U, U, U, U, U, U, U, U, U, U, U, U, U, U, U, U, U, U, U, U, U, U, U, U, U, U, U, U, U, U, U, U, U, U, U, U, U, U, U, U, U, U, U, U, U, U, U, U, U, U, U, U, U, U, U, U, U, U, U, U, U, U, U, U, .d (.bool v5055), U, U, U, U, U, U, U, U, U, U, U, U, U, U, U, U, U, U, U, U, U, U, U, U, U, U, U, U, U, U, U, U, U, U, U, U, U, U]) (fun v5055 : Bool => ⟨[[.d (.bool false), .nil, .d (.str [])], [.d (.str v4501.2.s), .d (.int .i64 v4501.2.at_), .d (.bool v4501.2.b.Skip), .own 0 (List.map encApiWord v4501.2.b.Words), .d (.str v4501.2.b.Comment)]], [(58, v4501.2.b.Words.length)]⟩) (fun _ => rfl) ?_ ?_)))
           ·refine Mir.ite (fun hb7002 => ?_) (fun hb7002 => ?_)
            ·refine Mir.bind fun c5054 q7003 => ?_
             replace q7003 := gt_ok q7003
             refine Mir.ite (fun hb7004 => ?_) (fun hb7004 => ?_)
             ·refine Mir.ite (fun hb7005 => ?_) (fun hb7005 => ?_)
              ·refine Mir.region fun e h => ?_
               simp only [↓reduceIte, reduceCtorEq, nA, nS, nM, nE, nL, nT, nB, iT, iN, iE, and_self, SR, SV, fld_62_0, sz_9, ag_9, und_9, q7003, ENMB, hb7002, hb7004, hb7005]
               cases h
               simp only [↓reduceIte, reduceCtorEq, nA, nE, nL, and_self, and_true, true_and, SL, ENMB, hb7002, hb7004, hb7005]
              ·refine Mir.ite (fun hb7006 => ?_) (fun hb7006 => ?_)
               ·refine Mir.region fun e h => ?_
                simp only [↓reduceIte, reduceCtorEq, nA, nS, nM, nE, nL, nT, nB, iT, iN, iE, and_self, SR, SV, fld_62_0, sz_9, ag_9, und_9, q7003, ENMB, hb7002, hb7004, hb7005, hb7006]
                cases h
                simp only [↓reduceIte, reduceCtorEq, nA, nE, nL, and_self, and_true, true_and, SL, ENMB, hb7002, hb7004, hb7005, hb7006]
               ·refine Mir.region fun e h => ?_
                simp only [↓reduceIte, reduceCtorEq, nA, nS, nM, nE, nL, nT, nB, iT, iN, iE, and_self, SR, SV, fld_62_0, sz_9, ag_9, und_9, q7003, ENMB, hb7002, hb7004, hb7005, hb7006]
                cases h
                simp only [↓reduceIte, reduceCtorEq, nA, nE, nL, and_self, and_true, true_and, SL, ENMB, hb7002, hb7004, hb7005, hb7006]
             ·refine Mir.ite (fun hb7007 => ?_) (fun hb7007 => ?_)
              ·refine Mir.region fun e h => ?_
               simp only [↓reduceIte, reduceCtorEq, nA, nS, nM, nE, nL, nT, nB, iT, iN, iE, and_self, SR, SV, fld_62_0, sz_9, ag_9, und_9, q7003, ENMB, hb7002, hb7004, hb7007]
               cases h
               simp only [↓reduceIte, reduceCtorEq, nA, nE, nL, and_self, and_true, true_and, SL, ENMB, hb7002, hb7004, hb7007]
              ·refine Mir.region fun e h => ?_
               simp only [↓reduceIte, reduceCtorEq, nA, nS, nM, nE, nL, nT, nB, iT, iN, iE, and_self, SR, SV, fld_62_0, sz_9, ag_9, und_9, q7003, ENMB, hb7002, hb7004, hb7007]
               cases h
               simp only [↓reduceIte, reduceCtorEq, nA, nE, nL, and_self, and_true, true_and, SL, ENMB, hb7002, hb7004, hb7007]
            ·refine Mir.region fun e h => ?_
             simp only [↓reduceIte, reduceCtorEq, nA, nS, nM, nE, nL, nT, nB, iT, iN, iE, and_self, SR, SV, fld_62_0, sz_9, ag_9, und_9, ENMB, hb7002]
             cases h
             simp only [↓reduceIte, reduceCtorEq, nA, nE, nL, and_self, and_true, true_and, SL, ENMB, hb7002]
           ·intro v5055
            refine Mir.toK (Mir.cond rfl (fun hb7009 => ?_) (fun hb7009 => ?_))
            ·refine Mir.skip (Mir.toK (Mir.block (Mir.region fun e h => ?_)))
             simp only [↓reduceIte, reduceCtorEq, nA, nS, nM, nE, nL, nT, nB, iT, iN, iE, and_self, SR, SV, ENMB]
             cases h
             simp only [↓reduceIte, reduceCtorEq, nA, nE, nL, and_self, and_true, true_and, SL, ENMB, Tryz.results46]
            ·refine Mir.exit fun e h => ?_
             cases h
             simp only [↓reduceIte, reduceCtorEq, nA, nE, nL, and_self, and_true, true_and, SL, ENMB, Tryz.results46]
          ·intro v5041
           refine Mir.toK (Mir.seqK (Mir.bind fun s5056 q7010 => ?_))
           replace q7010 := cutL_ok q7010
           refine Mir.bind fun y5057 hy7011 => Mir.regionD [] (by kernel_rfl) fun e h => ?_
           simp only [↓reduceIte, reduceCtorEq, nA, nS, nM, nE, nL, nT, nB, iT, iN, iE, and_self, SR, SV, sepL_nil, sepL_cons, sepV_ne, sepV_d, sepV_i, true_and, Bool.and_self, fld_62_0, sz_9, ag_9, fld_62_1, sz_3, ag_3, und_9, q7010, Nat.le_refl, and_true, true_and, dm, tm, ENMB]
           refine Spec.by (bk_Value_spec hy7011) (by simp only [↓reduceIte, reduceCtorEq, nA, nE, nL, and_self, and_true, true_and, SL, ENMB]) ?_
           simp only [↓reduceIte, reduceCtorEq, nA, nS, nM, nE, nL, nT, nB, iT, iN, iE, and_self, SR, SV, sepL_nil, sepL_cons, sepV_ne, sepV_d, sepV_i, true_and, Bool.and_self, ENMB]
           refine Mir.use (e := e) ?_ h
           refine Mir.seqK (Mir.seqK (Mir.region fun e h => ?_))
           simp only [↓reduceIte, reduceCtorEq, nA, nS, nM, nE, nL, nT, nB, iT, iN, iE, and_self, SR, SV, ENMB]
           refine Mir.use (e := e) ?_ h
           refine Mir.cond rfl (fun hb7013 => ?_) (fun hb7013 => ?_)
           ·refine Mir.seqK (Mir.region fun e h => ?_)
            simp only [↓reduceIte, reduceCtorEq, nA, nS, nM, nE, nL, nT, nB, iT, iN, iE, and_self, SR, SV, ENMB]
            refine Mir.use (e := e) ?_ h
            refine Mir.ret fun e h => ?_
            cases h
            simp only [↓reduceIte, reduceCtorEq, nA, nE, nL, and_self, and_true, true_and, SL, ENMB, Tryz.results46]
           ·refine Mir.skip (Mir.toK (Mir.seqK (Mir.guard fun q7014 => Mir.region fun e h => ?_)))
            simp only [↓reduceIte, reduceCtorEq, nA, nS, nM, nE, nL, nT, nB, iT, iN, iE, and_self, SR, SV, fld_62_2, sz_36, fld_36_1, sz_34, ag_34, zero_58, pl_58, und_34, sz_58, (nr rfl : okLen 2 = true), app_34, al_ApiWord, q7014, ENMB]
            refine Mir.use (e := e) ?_ h
            refine Mir.seqK (Mir.region fun e h => ?_)
            simp only [↓reduceIte, reduceCtorEq, nA, nS, nM, nE, nL, nT, nB, iT, iN, iE, and_self, SR, SV, fld_62_1, sz_3, ENMB]
            refine Mir.use (e := e) ?_ h
            refine Mir.seqK (Mir.region fun e h => ?_)
            simp only [↓reduceIte, reduceCtorEq, nA, nS, nM, nE, nL, nT, nB, iT, iN, iE, and_self, SR, SV, ENMB]
            refine Mir.use (e := e) ?_ h
            refine Mir.ret fun e h => ?_
            cases h
            simp only [↓reduceIte, reduceCtorEq, nA, nE, nL, and_self, and_true, true_and, SL, ENMB, Tryz.results46]
      simp only [↓reduceIte, reduceCtorEq, nA, nS, nM, nE, nL, nT, nB, iT, iN, iE, and_self, SR, SV, ENMB]
      refine Mir.use (e := e) ?_ h
      refine Mir.seqK (Mir.region fun e h => ?_)
      simp only [↓reduceIte, reduceCtorEq, nA, nS, nM, nE, nL, nT, nB, iT, iN, iE, and_self, SR, SV, ENMB]
      refine Mir.use (e := e) ?_ h
      refine Mir.cond rfl (fun hb7016 => ?_) (fun hb7016 => ?_)
      ·refine Mir.seqK (Mir.region fun e h => ?_)
       simp only [↓reduceIte, reduceCtorEq, nA, nS, nM, nE, nL, nT, nB, iT, iN, iE, and_self, SR, SV, ENMB]
       refine Mir.use (e := e) ?_ h
       refine Mir.ret fun e h => ?_
       cases h
       simp only [↓reduceIte, reduceCtorEq, nA, nE, nL, and_self, and_true, true_and, SL, ENMB, Tryz.results27]
      ·refine Mir.skip (Mir.toK (Mir.seqK (Mir.seqK (Mir.bind fun v5058 hv7017 => Mir.region fun e h => ?_))))
       simp only [↓reduceIte, reduceCtorEq, nA, nS, nM, nE, nL, nT, nB, iT, iN, iE, and_self, SR, SV, ENMB]
       refine SpecS.inl Tryz.func44 rfl (by kernel_rfl) (by kernel_rfl) (fun v5058 : Unit => .d (.bool (v5025.2.at_ == (v5025.2.s.length : Int)))) (fun v5058 : Unit => ⟨[[.d (.bool false), .nil, .d (.str [])], [.d (.str v5025.2.s), .d (.int .i64 v5025.2.at_), .d (.bool v5025.2.b.Skip), .own 0 (List.map encApiWord v5025.2.b.Words), .d (.str v5025.2.b.Comment)]], [(58, v5025.2.b.Words.length)]⟩) hv7017 rfl ?_ ?_
       ·simp only [List.replicate, List.length, nS, nA, Tryz.ntmps44, SV]
        refine Mir.seqK (Mir.region fun e h => ?_)
        simp only [↓reduceIte, reduceCtorEq, nA, nS, nM, nE, nL, nT, nB, iT, iN, iE, and_self, SR, SV, ENMB]
        refine Mir.use (e := e) ?_ h
        refine Mir.seqK (Mir.regionD [] (by kernel_rfl) fun e h => ?_)
        simp only [↓reduceIte, reduceCtorEq, nA, nS, nM, nE, nL, nT, nB, iT, iN, iE, and_self, SR, SV, sepL_nil, sepL_cons, sepV_ne, sepV_d, sepV_i, true_and, Bool.and_self, fld_62_1, sz_3, ag_3, fld_62_0, sz_9, ag_9, und_9, ENMB]
        refine Mir.use (e := e) ?_ h
        refine Mir.ret fun e h => ?_
        cases h
        simp only [↓reduceIte, reduceCtorEq, nA, nE, nL, and_self, and_true, true_and, SL, ENMB, Tryz.results44]
       simp only [↓reduceIte, reduceCtorEq, nA, nS, nM, nE, nL, nT, nB, iT, iN, iE, and_self, SR, SV, ENMB]
       refine Mir.use (e := e) ?_ h
       refine Mir.cond rfl (fun hb7019 => ?_) (fun hb7019 => ?_)
       ·refine Mir.seqK (Mir.region fun e h => ?_)
        simp only [↓reduceIte, reduceCtorEq, nA, nS, nM, nE, nL, nT, nB, iT, iN, iE, and_self, SR, SV, ENMB]
        refine Mir.use (e := e) ?_ h
        refine Mir.ret fun e h => ?_
        cases h
        simp only [↓reduceIte, reduceCtorEq, nA, nE, nL, and_self, and_true, true_and, SL, ENMB, Tryz.results27]
       ·refine Mir.skip (Mir.toK (Mir.seqK (Mir.bind fun v5062 hv7025 => Mir.region fun e h => ?_)))
        simp only [↓reduceIte, reduceCtorEq, nA, nS, nM, nE, nL, nT, nB, iT, iN, iE, and_self, SR, SV, ENMB]
        refine SpecS.inl Tryz.func43 rfl (by kernel_rfl) (by kernel_rfl) (fun v5062 : Bool × Int => .d (.bool v5062.1)) (fun v5062 : Bool × Int => ⟨[[.d (.bool false), .nil, .d (.str [])], [.d (.str v5025.2.s), .d (.int .i64 v5062.2), .d (.bool v5025.2.b.Skip), .own 0 (List.map encApiWord v5025.2.b.Words), .d (.str v5025.2.b.Comment)]], [(58, v5025.2.b.Words.length)]⟩) hv7025 rfl ?_ ?_
        ·simp only [List.replicate, List.length, nS, nA, Tryz.ntmps43, SV]
         refine Mir.seqK (Mir.region fun e h => ?_)
         simp only [↓reduceIte, reduceCtorEq, nA, nS, nM, nE, nL, nT, nB, iT, iN, iE, and_self, SR, SV, ENMB]
         refine Mir.use (e := e) ?_ h
         refine Mir.seqK (Mir.seqK (Mir.joinO (fun v5065 : Bool => [.ptr 1 0, U, U, U, U, U, U, U, U, U, U, U, U, U, U, U, U, U, U, .d (.bool v5065), U, U, U, U, U, U, U]) (fun v5065 : Bool => ⟨[[.d (.bool false), .nil, .d (.str [])], [.d (.str v5025.2.s), .d (.int .i64 v5025.2.at_), .d (.bool v5025.2.b.Skip), .own 0 (List.map encApiWord v5025.2.b.Words), .d (.str v5025.2.b.Comment)]], [(58, v5025.2.b.Words.length)]⟩) (fun _ => rfl) ?_ ?_))
         ·refine Mir.bind fun v5063 hv7026 => Mir.ite (fun hb7027 => ?_) (fun hb7027 => ?_)
          ·refine Mir.regionA 1 [] [.ptr 1 0, .d (.int .u8 32), U, U, .d (.bool false), .ptr 1 0, .d (.bool (v5025.2.at_ == (v5025.2.s.length : Int))), .d (.bool (v5025.2.at_ == (v5025.2.s.length : Int))), .skip, .skip, .skip, .skip, .skip, .skip, .skip, .skip, .skip, .skip, .skip, .d (.bool true), U, U, U, U, U, U, U] ⟨[[.d (.bool false), .nil, .d (.str [])], [.d (.str v5025.2.s), .d (.int .i64 v5025.2.at_), .d (.bool v5025.2.b.Skip), .own 0 (List.map encApiWord v5025.2.b.Words), .d (.str v5025.2.b.Comment)]], [(58, v5025.2.b.Words.length)]⟩ (by kernel_rfl) (fun e h => ?_) (fun e h => ?_)
           ·simp only [↓reduceIte, reduceCtorEq, nA, nS, nM, nE, nL, nT, nB, iT, iN, iE, and_self, SR, SV, w_none, w_eq, and_true, true_and, tkS, tk0, tkN, dpS, dp0, sepL_nil, sepL_cons, sepV_ne, sepV_d, sepV_i, true_and, Bool.and_self, ENMB, hb7027]
            refine regA.one (j := 1) (by kernel_rfl) rfl (regW.of ?_)
            simp only [↓reduceIte, reduceCtorEq, nA, nS, nM, nE, nL, nT, nB, iT, iN, iE, and_self, SR, SV, w_none, w_eq, and_true, true_and, tkS, tk0, tkN, dpS, dp0, ENMB, hb7027]
            refine SpecS.inl Tryz.func44 rfl (by kernel_rfl) (by kernel_rfl) (fun v5063 : Unit => .d (.bool (v5025.2.at_ == (v5025.2.s.length : Int)))) (fun v5063 : Unit => ⟨[[.d (.bool false), .nil, .d (.str [])], [.d (.str v5025.2.s), .d (.int .i64 v5025.2.at_), .d (.bool v5025.2.b.Skip), .own 0 (List.map encApiWord v5025.2.b.Words), .d (.str v5025.2.b.Comment)]], [(58, v5025.2.b.Words.length)]⟩) hv7026 rfl ?_ ?_
            ·simp only [List.replicate, List.length, nS, nA, Tryz.ntmps44, SV]
             refine Mir.seqK (Mir.region fun e h => ?_)
             simp only [↓reduceIte, reduceCtorEq, nA, nS, nM, nE, nL, nT, nB, iT, iN, iE, and_self, SR, SV, ENMB]
             refine Mir.use (e := e) ?_ h
             refine Mir.seqK (Mir.regionD [] (by kernel_rfl) fun e h => ?_)
             simp only [↓reduceIte, reduceCtorEq, nA, nS, nM, nE, nL, nT, nB, iT, iN, iE, and_self, SR, SV, sepL_nil, sepL_cons, sepV_ne, sepV_d, sepV_i, true_and, Bool.and_self, fld_62_1, sz_3, ag_3, fld_62_0, sz_9, ag_9, und_9, ENMB]
             refine Mir.use (e := e) ?_ h
             refine Mir.ret fun e h => ?_
             cases h
             simp only [↓reduceIte, reduceCtorEq, nA, nE, nL, and_self, and_true, true_and, SL, ENMB, Tryz.results44]
            simp only [↓reduceIte, reduceCtorEq, nA, nS, nM, nE, nL, nT, nB, iT, iN, iE, and_self, SR, SV, w_none, w_eq, and_true, true_and, tkS, tk0, tkN, dpS, dp0, ENMB, hb7027]
            refine regA.draw 2 [] (by kernel_rfl) ?_
            simp only [↓reduceIte, reduceCtorEq, nA, nS, nM, nE, nL, nT, nB, iT, iN, iE, and_self, SR, SV, w_none, w_eq, and_true, true_and, tkS, tk0, tkN, dpS, dp0, sepL_nil, sepL_cons, sepV_ne, sepV_d, sepV_i, true_and, Bool.and_self, ENMB, hb7027]
            exact ⟨rfl, rfl⟩
           ·cases h
            simp only [↓reduceIte, reduceCtorEq, nA, nE, nL, and_self, and_true, true_and, SL, ENMB, hb7027]
          ·refine Mir.bind fun c5064 q7028 => ?_
           replace q7028 := gt_ok q7028
           refine Mir.regionA 1 [] [.ptr 1 0, .d (.int .u8 32), U, U, .d (.bool false), .ptr 1 0, .d (.bool (v5025.2.at_ == (v5025.2.s.length : Int))), .d (.bool (v5025.2.at_ == (v5025.2.s.length : Int))), .ptr 1 0, .ptr 1 0, .ptr 1 0, .d (.str v5025.2.s), .ptr 1 0, .ptr 1 0, .ptr 1 1, .d (.int .i64 v5025.2.at_), .d (.int .u8 (c5064.toNat : Int)), .d (.int .u8 32), .d (.bool ((c5064.toNat : Int) != 32)), .d (.bool ((c5064.toNat : Int) != 32)), U, U, U, U, U, U, U] ⟨[[.d (.bool false), .nil, .d (.str [])], [.d (.str v5025.2.s), .d (.int .i64 v5025.2.at_), .d (.bool v5025.2.b.Skip), .own 0 (List.map encApiWord v5025.2.b.Words), .d (.str v5025.2.b.Comment)]], [(58, v5025.2.b.Words.length)]⟩ (by kernel_rfl) (fun e h => ?_) (fun e h => ?_)
           ·simp only [↓reduceIte, reduceCtorEq, nA, nS, nM, nE, nL, nT, nB, iT, iN, iE, and_self, SR, SV, w_none, w_eq, and_true, true_and, tkS, tk0, tkN, dpS, dp0, sepL_nil, sepL_cons, sepV_ne, sepV_d, sepV_i, true_and, Bool.and_self, ENMB, hb7027]
            refine regA.one (j := 1) (by kernel_rfl) rfl (regW.of ?_)
            simp only [↓reduceIte, reduceCtorEq, nA, nS, nM, nE, nL, nT, nB, iT, iN, iE, and_self, SR, SV, w_none, w_eq, and_true, true_and, tkS, tk0, tkN, dpS, dp0, ENMB, hb7027]
            refine SpecS.inl Tryz.func44 rfl (by kernel_rfl) (by kernel_rfl) (fun v5063 : Unit => .d (.bool (v5025.2.at_ == (v5025.2.s.length : Int)))) (fun v5063 : Unit => ⟨[[.d (.bool false), .nil, .d (.str [])], [.d (.str v5025.2.s), .d (.int .i64 v5025.2.at_), .d (.bool v5025.2.b.Skip), .own 0 (List.map encApiWord v5025.2.b.Words), .d (.str v5025.2.b.Comment)]], [(58, v5025.2.b.Words.length)]⟩) hv7026 rfl ?_ ?_
            ·simp only [List.replicate, List.length, nS, nA, Tryz.ntmps44, SV]
             refine Mir.seqK (Mir.region fun e h => ?_)
             simp only [↓reduceIte, reduceCtorEq, nA, nS, nM, nE, nL, nT, nB, iT, iN, iE, and_self, SR, SV, ENMB]
             refine Mir.use (e := e) ?_ h
             refine Mir.seqK (Mir.regionD [] (by kernel_rfl) fun e h => ?_)
             simp only [↓reduceIte, reduceCtorEq, nA, nS, nM, nE, nL, nT, nB, iT, iN, iE, and_self, SR, SV, sepL_nil, sepL_cons, sepV_ne, sepV_d, sepV_i, true_and, Bool.and_self, fld_62_1, sz_3, ag_3, fld_62_0, sz_9, ag_9, und_9, ENMB]
             refine Mir.use (e := e) ?_ h
             refine Mir.ret fun e h => ?_
             cases h
             simp only [↓reduceIte, reduceCtorEq, nA, nE, nL, and_self, and_true, true_and, SL, ENMB, Tryz.results44]
            simp only [↓reduceIte, reduceCtorEq, nA, nS, nM, nE, nL, nT, nB, iT, iN, iE, and_self, SR, SV, w_none, w_eq, and_true, true_and, tkS, tk0, tkN, dpS, dp0, ENMB, hb7027]
            refine regA.draw 2 [] (by kernel_rfl) ?_
            simp only [↓reduceIte, reduceCtorEq, nA, nS, nM, nE, nL, nT, nB, iT, iN, iE, and_self, SR, SV, w_none, w_eq, and_true, true_and, tkS, tk0, tkN, dpS, dp0, sepL_nil, sepL_cons, sepV_ne, sepV_d, sepV_i, true_and, Bool.and_self, fld_62_0, sz_9, ag_9, fld_62_1, sz_3, ag_3, und_9, q7028, ENMB, hb7027]
            exact ⟨rfl, rfl⟩
           ·cases h
            simp only [↓reduceIte, reduceCtorEq, nA, nE, nL, and_self, and_true, true_and, SL, ENMB, hb7027]
         ·intro v5065
          refine Mir.toK (Mir.cond rfl (fun hb7030 => ?_) (fun hb7030 => ?_))
          ·refine Mir.seqK (Mir.region fun e h => ?_)
           simp only [↓reduceIte, reduceCtorEq, nA, nS, nM, nE, nL, nT, nB, iT, iN, iE, and_self, SR, SV, ENMB]
           refine Mir.use (e := e) ?_ h
           refine Mir.ret fun e h => ?_
           cases h
           simp only [↓reduceIte, reduceCtorEq, nA, nE, nL, and_self, and_true, true_and, SL, ENMB, Tryz.results43]
          ·refine Mir.skip (Mir.toK (Mir.seqK (Mir.region fun e h => ?_)))
           simp only [↓reduceIte, reduceCtorEq, nA, nS, nM, nE, nL, nT, nB, iT, iN, iE, and_self, SR, SV, fld_62_1, sz_3, ag_3, ENMB]
           refine Mir.use (e := e) ?_ h
           refine Mir.seqK (Mir.region fun e h => ?_)
           simp only [↓reduceIte, reduceCtorEq, nA, nS, nM, nE, nL, nT, nB, iT, iN, iE, and_self, SR, SV, ENMB]
           refine Mir.use (e := e) ?_ h
           refine Mir.ret fun e h => ?_
           cases h
           simp only [↓reduceIte, reduceCtorEq, nA, nE, nL, and_self, and_true, true_and, SL, ENMB, Tryz.results43]
        simp only [↓reduceIte, reduceCtorEq, nA, nS, nM, nE, nL, nT, nB, iT, iN, iE, and_self, SR, SV, ENMB]
        refine Mir.use (e := e) ?_ h
        refine Mir.cond rfl (fun hb7032 => ?_) (fun hb7032 => ?_)
        ·refine Mir.seqK (Mir.region fun e h => ?_)
         simp only [↓reduceIte, reduceCtorEq, nA, nS, nM, nE, nL, nT, nB, iT, iN, iE, and_self, SR, SV, ENMB]
         refine Mir.use (e := e) ?_ h
         refine Mir.ret fun e h => ?_
         cases h
         simp only [↓reduceIte, reduceCtorEq, nA, nE, nL, and_self, and_true, true_and, SL, ENMB, Tryz.results27]
        ·refine Mir.skip (Mir.toB (Mir.toK (Mir.region fun e h => ?_)))
         simp only [↓reduceIte, reduceCtorEq, nA, nS, nM, nE, nL, nT, nB, iT, iN, iE, and_self, SR, SV, ENMB]
         cases h
         simp only [↓reduceIte, reduceCtorEq, nA, nE, nL, and_self, and_true, true_and, SL, ENMB, Tryz.results27]
   simp only [↓reduceIte, reduceCtorEq, nA, nS, nM, nE, nL, nT, nB, iT, iN, iE, and_self, SR, SV, ENMB]
   refine Mir.use (e := e) ?_ h
   refine Mir.seqK (Mir.region fun e h => ?_)
   simp only [↓reduceIte, reduceCtorEq, nA, nS, nM, nE, nL, nT, nB, iT, iN, iE, and_self, SR, SV, ENMB]
   refine Mir.use (e := e) ?_ h
   refine Mir.cond rfl (fun hb7034 => ?_) (fun hb7034 => ?_)
   ·refine Mir.seqK (Mir.regionD [(17, 2)] (by kernel_rfl) fun e h => ?_)
    simp only [↓reduceIte, reduceCtorEq, nA, nS, nM, nE, nL, nT, nB, iT, iN, iE, and_self, SR, SV, sepL_nil, sepL_cons, sepV_ne, sepV_d, sepV_i, true_and, Bool.and_self, zero_36, pl_36, fld_62_1, sz_3, ag_3, sz_36, ENMB]
    refine Mir.use (e := e) ?_ h
    refine Mir.ret fun e h => ?_
    cases h
    simp only [↓reduceIte, reduceCtorEq, nA, nE, nL, and_self, and_true, true_and, SL, ENMB, Tryz.results14, ag_36, sz_36]
   ·refine Mir.skip (Mir.toK (Mir.seqK (Mir.region fun e h => ?_)))
    simp only [↓reduceIte, reduceCtorEq, nA, nS, nM, nE, nL, nT, nB, iT, iN, iE, and_self, SR, SV, fld_62_2, sz_36, ag_36, ENMB]
    refine Mir.use (e := e) ?_ h
    refine Mir.ret fun e h => ?_
    cases h
    simp only [↓reduceIte, reduceCtorEq, nA, nE, nL, and_self, and_true, true_and, SL, ENMB, Tryz.results14, ag_36, sz_36]

def r41_Equal (a0 : ApiBlock) (a1 : ApiBlock) : Option Bool :=
  if (!(a0.Skip == a1.Skip) || (!(a0.Comment == a1.Comment) || ((a0.Words.length : Int) != (a1.Words.length : Int)))) = true then
    some false
  else
    bindX (guardO (okIdx a0.Words) (
        rangeX (fun (i141 : Nat) (e143 : ApiWord) (v142 : Unit) =>
          bindO (gt a1.Words (i141 : Int)) fun (e145 : ApiWord) =>
          if (!((e143.Letter == e145.Letter) && (e143.Value == e145.Value))) = true then
            some (.ret (.ret false))
          else
            some (.go ())) (fun (v142 : Unit) => some (.go ())) a0.Words 0 ())) fun (v123 : Unit) =>
    some true
theorem r41_Equal_spec {a0 : ApiBlock} {a1 : ApiBlock} {y : Bool} (h : r41_Equal a0 a1 = some y) : Spec gP 15 [.agg [.d (.bool a0.Skip), .d (.list (List.map encApiWord a0.Words)), .d (.str a0.Comment)], .agg [.d (.bool a1.Skip), .d (.list (List.map encApiWord a1.Words)), .d (.str a1.Comment)]] (.d (.bool y)) := by
  refine spec_mir Tryz.func15 rfl (by kernel_rfl) (by kernel_rfl) (fun y : Bool => .d (.bool y)) ?_ h
  unfold r41_Equal
  simp only [List.replicate, List.length, nS, nA, Tryz.ntmps15, SV]
  refine Mir.seqK (Mir.region fun e h => ?_)
  simp only [↓reduceIte, reduceCtorEq, nA, nS, nM, nE, nL, nT, nB, iT, iN, iE, and_self, SR, SV, ENMB]
  refine Mir.use (e := e) ?_ h
  refine Mir.seqK (Mir.seqK (Mir.joinV [U, U, .ptr 0 0, .ptr 1 0, U, U, U, U, U, U, U, U, U, U, U, U, U, U, U, U, U, U, U, U, U, U, .d (.bool (!(a0.Skip == a1.Skip) || (!(a0.Comment == a1.Comment) || ((a0.Words.length : Int) != (a1.Words.length : Int))))), U, U, U, U, U, U, U, U, U, U, U, U, U, U, U, U, U, U] ⟨[[.d (.bool a0.Skip), .d (.list (List.map encApiWord a0.Words)), .d (.str a0.Comment)], [.d (.bool a1.Skip), .d (.list (List.map encApiWord a1.Words)), .d (.str a1.Comment)]], []⟩ rfl ?_ ?_))
  ·refine SWs.region ?_
   rcases Bool.eq_false_or_eq_true (a0.Skip == a1.Skip) with hb1 | hb1
   ·rcases Bool.eq_false_or_eq_true (a0.Comment == a1.Comment) with hb2 | hb2
    ·simp only [↓reduceIte, reduceCtorEq, nA, nS, nM, nE, nL, nT, nB, iT, iN, iE, and_self, SR, SV, SL, PB, fld_36_0, sz_4, ag_4, und_4, fld_36_2, sz_9, ag_9, fld_36_1, sz_34, ag_34, und_34, hb1, hb2, ENMB]
    ·simp only [↓reduceIte, reduceCtorEq, nA, nS, nM, nE, nL, nT, nB, iT, iN, iE, and_self, SR, SV, SL, PB, fld_36_0, sz_4, ag_4, und_4, fld_36_2, sz_9, ag_9, hb1, hb2, ENMB]
   ·simp only [↓reduceIte, reduceCtorEq, nA, nS, nM, nE, nL, nT, nB, iT, iN, iE, and_self, SR, SV, SL, PB, fld_36_0, sz_4, ag_4, und_4, hb1, ENMB]
  ·refine Mir.toK (Mir.cond rfl (fun hb4 => ?_) (fun hb4 => ?_))
   ·refine Mir.seqK (Mir.region fun e h => ?_)
    simp only [↓reduceIte, reduceCtorEq, nA, nS, nM, nE, nL, nT, nB, iT, iN, iE, and_self, SR, SV, ENMB]
    refine Mir.use (e := e) ?_ h
    refine Mir.ret fun e h => ?_
    cases h
    simp only [↓reduceIte, reduceCtorEq, nA, nE, nL, and_self, and_true, true_and, SL, ENMB, Tryz.results15]
   ·refine Mir.skip (Mir.toK (Mir.seqK (Mir.seqK (Mir.region fun e h => ?_))))
    simp only [↓reduceIte, reduceCtorEq, nA, nS, nM, nE, nL, nT, nB, iT, iN, iE, and_self, SR, SV, ENMB]
    refine Mir.use (e := e) ?_ h
    refine Mir.join (fun v123 : Unit => [U, U, U, U, U, U, U, U, U, U, U, U, U, U, U, U, U, U, U, U, U, U, U, U, U, U, U, U, U, U, U, U, U, U, U, U, U, U, U, U, U, U, U, U, U]) (fun v123 : Unit => ⟨[[.d (.bool a0.Skip), .d (.list (List.map encApiWord a0.Words)), .d (.str a0.Comment)], [.d (.bool a1.Skip), .d (.list (List.map encApiWord a1.Words)), .d (.str a1.Comment)]], []⟩) (fun _ => rfl) ?_ ?_
    ·refine Mir.block (Mir.guard fun qg69 => Mir.range (fun (i141 : Nat) (v142 : Unit) => [U, U, .ptr 0 0, .ptr 1 0, U, .d (.int .i64 (i141 : Int)), U, U, U, U, U, U, U, U, U, U, U, U, U, U, U, U, U, U, U, U, U, U, U, U, U, U, U, U, U, U, U, U, U, U, U, U, U, U, U]) (fun (i141 : Nat) (v142 : Unit) => ⟨[[.d (.bool a0.Skip), .d (.list (List.map encApiWord a0.Words)), .d (.str a0.Comment)], [.d (.bool a1.Skip), .d (.list (List.map encApiWord a1.Words)), .d (.str a1.Comment)]], []⟩) qg69 (fun _ _ => rfl) (by simp only [↓reduceIte, reduceCtorEq, nA, nE, nL, and_self, and_true, true_and, SL, ENMB, (nr rfl : ((0 : Nat) : Int) = 0)]) (by simp only [↓reduceIte, reduceCtorEq, nA, nE, nL, and_self, and_true, true_and, SL, ENMB, (nr rfl : ((0 : Nat) : Int) = 0)]) ?_ ?_)
     ·intro i141 e143 v142 qr67
      refine Mir.seqK (Mir.seqK (Mir.region fun e h => ?_))
      simp only [↓reduceIte, reduceCtorEq, nA, nS, nM, nE, nL, nT, nB, iT, iN, iE, and_self, SR, SV, fld_36_1, sz_34, ag_34, und_34, qr67, ENMB]
      refine Mir.use (e := e) ?_ h
      refine Mir.condT rfl (Mir.skip (Mir.toK (Mir.seqK (Mir.block (Mir.seqK (Mir.bind fun e145 q72 => ?_))))))
      replace q72 := gt_ok q72
      simp only [Int.toNat_natCast] at q72
      refine Mir.regionD [] (by kernel_rfl) fun e h => ?_
      simp only [↓reduceIte, reduceCtorEq, nA, nS, nM, nE, nL, nT, nB, iT, iN, iE, and_self, SR, SV, sepL_nil, sepL_cons, sepV_ne, sepV_d, sepV_i, true_and, Bool.and_self, fld_36_1, sz_34, ag_34, und_34, sz_58, qr67, Int.toNat_natCast, ag_58, q72, gE_58, ENMB]
      refine Mir.use (e := e) ?_ h
      refine Mir.cond rfl (fun hb74 => ?_) (fun hb74 => ?_)
      ·refine Mir.seqK (Mir.region fun e h => ?_)
       simp only [↓reduceIte, reduceCtorEq, nA, nS, nM, nE, nL, nT, nB, iT, iN, iE, and_self, SR, SV, ENMB]
       refine Mir.use (e := e) ?_ h
       refine Mir.ret fun e h => ?_
       cases h
       simp only [↓reduceIte, reduceCtorEq, nA, nE, nL, and_self, and_true, true_and, SL, ENMB, Tryz.results15]
      ·refine Mir.skip (Mir.toB (Mir.toK (Mir.region fun e h => ?_)))
       simp only [↓reduceIte, reduceCtorEq, nA, nS, nM, nE, nL, nT, nB, iT, iN, iE, and_self, SR, SV, ENMB]
       cases h
       simp only [↓reduceIte, reduceCtorEq, nA, nE, nL, and_self, and_true, true_and, SL, ENMB, Tryz.results15, qr67]
     ·intro v142 qd68
      refine Mir.seqK (Mir.seqK (Mir.region fun e h => ?_))
      simp only [↓reduceIte, reduceCtorEq, nA, nS, nM, nE, nL, nT, nB, iT, iN, iE, and_self, SR, SV, fld_36_1, sz_34, ag_34, und_34, qd68, ENMB]
      refine Mir.use (e := e) ?_ h
      refine Mir.condF rfl (Mir.exit fun e h => ?_)
      cases h
      simp only [↓reduceIte, reduceCtorEq, nA, nE, nL, and_self, and_true, true_and, SL, ENMB, Tryz.results15]
    ·intro v123
     refine Mir.toK (Mir.seqK (Mir.region fun e h => ?_))
     simp only [↓reduceIte, reduceCtorEq, nA, nS, nM, nE, nL, nT, nB, iT, iN, iE, and_self, SR, SV, ENMB]
     refine Mir.use (e := e) ?_ h
     refine Mir.ret fun e h => ?_
     cases h
     simp only [↓reduceIte, reduceCtorEq, nA, nE, nL, and_self, and_true, true_and, SL, ENMB, Tryz.results15]

def l41_awake  : Option Bool :=
  bindO (l41_example ) fun (y101 : ApiBlock) =>
  bindO (bk_Format y101) fun (y102 : (List UInt8) × Int) =>
  bindO (bk_Parse y102.1) fun (y103 : ApiBlock × Int × Int) =>
  bindO (bk_Parse [71, 49, 32, 32, 88, 50]) fun (y104 : ApiBlock × Int × Int) =>
  bindO (bk_Parse [71, 49, 32, 40, 97]) fun (y105 : ApiBlock × Int × Int) =>
  bindO (if (y102.2 == 0) = true then
        if (y102.1 == [47, 78, 49, 48, 32, 71, 49, 32, 88, 49, 50, 46, 53, 32, 89, 45, 48, 46, 50, 53, 32, 40, 108, 97, 115, 116, 32, 112, 97, 115, 115, 41]) = true then
          if (y103.2.2 == 0) = true then
            if (y103.2.1 == 0) = true then
              bindO (l41_example ) fun (y106 : ApiBlock) =>
              bindO (r41_Equal y103.1 y106) fun (y107 : Bool) =>
              if y107 = true then
                if (y104.2.2 == 2) = true then
                  if (y104.2.1 == 3) = true then
                    if (y105.2.2 == 2) = true then
                      some (y105.2.1 == 5)
                    else
                      some false
                  else
                    some false
                else
                  some false
              else
                some false
            else
              some false
          else
            some false
        else
          some false
      else
        some false) fun (v108 : Bool) =>
  some v108
theorem l41_awake_spec  {y : Bool} (h : l41_awake = some y) : Spec gP 5 [] (.d (.bool y)) := by
  refine spec_mir Tryz.func5 rfl (by kernel_rfl) (by kernel_rfl) (fun y : Bool => .d (.bool y)) ?_ h
  unfold l41_awake
  simp only [List.replicate, List.length, nS, nA, Tryz.ntmps5, SV]
  refine Mir.seqK (Mir.region fun e h => ?_)
  simp only [↓reduceIte, reduceCtorEq, nA, nS, nM, nE, nL, nT, nB, iT, iN, iE, and_self, SR, SV]
  refine Mir.use (e := e) ?_ h
  refine Mir.seqK (Mir.bind fun y101 hy1 => Mir.bind fun y102 hy2 => Mir.region fun e h => ?_)
  simp only [↓reduceIte, reduceCtorEq, nA, nS, nM, nE, nL, nT, nB, iT, iN, iE, and_self, SR, SV]
  refine SpecS.by (l41_example_spec hy1) (rfl) ?_
  simp only [↓reduceIte, reduceCtorEq, nA, nS, nM, nE, nL, nT, nB, iT, iN, iE, and_self, SR, SV]
  refine SpecS.by (bk_Format_spec hy2) (by simp only [↓reduceIte, reduceCtorEq, nA, nE, nL, and_self, and_true, true_and, SL]) ?_
  simp only [↓reduceIte, reduceCtorEq, nA, nS, nM, nE, nL, nT, nB, iT, iN, iE, and_self, SR, SV]
  refine Mir.use (e := e) ?_ h
  refine Mir.seqK (Mir.bind fun y103 hy3 => Mir.region fun e h => ?_)
  simp only [↓reduceIte, reduceCtorEq, nA, nS, nM, nE, nL, nT, nB, iT, iN, iE, and_self, SR, SV]
  refine SpecS.by (bk_Parse_spec hy3) (by simp only [↓reduceIte, reduceCtorEq, nA, nE, nL, and_self, and_true, true_and, SL]) ?_
  simp only [↓reduceIte, reduceCtorEq, nA, nS, nM, nE, nL, nT, nB, iT, iN, iE, and_self, SR, SV, zero_36, sz_36]
  refine Mir.use (e := e) ?_ h
  refine Mir.seqK (Mir.bind fun y104 hy4 => Mir.region fun e h => ?_)
  simp only [↓reduceIte, reduceCtorEq, nA, nS, nM, nE, nL, nT, nB, iT, iN, iE, and_self, SR, SV]
  refine SpecS.by (bk_Parse_spec hy4) (by simp only [↓reduceIte, reduceCtorEq, nA, nE, nL, and_self, and_true, true_and, SL]) ?_
  simp only [↓reduceIte, reduceCtorEq, nA, nS, nM, nE, nL, nT, nB, iT, iN, iE, and_self, SR, SV, zero_36, sz_36]
  refine Mir.use (e := e) ?_ h
  refine Mir.seqK (Mir.bind fun y105 hy5 => Mir.region fun e h => ?_)
  simp only [↓reduceIte, reduceCtorEq, nA, nS, nM, nE, nL, nT, nB, iT, iN, iE, and_self, SR, SV]
  refine SpecS.by (bk_Parse_spec hy5) (by simp only [↓reduceIte, reduceCtorEq, nA, nE, nL, and_self, and_true, true_and, SL]) ?_
  simp only [↓reduceIte, reduceCtorEq, nA, nS, nM, nE, nL, nT, nB, iT, iN, iE, and_self, SR, SV, zero_36, sz_36]
  refine Mir.use (e := e) ?_ h
  refine Mir.seqK (Mir.joinO (fun v108 : Bool => [.d (.bool v108), U, U, U, U, U, U, U, U, U, U, U, U, U, U, U, U, U, U, U, U, U, U, U, U, U, U, U, U, U, U, U, U, U, U, U, U, U, U, U, U, U, U, U, U, U, U, U, U, U, U, U, U, U, U, U, U, U, U, U, U, U, U, U, U, U, U, U]) (fun v108 : Bool => ⟨[[.d (.bool y103.1.Skip), .d (.list (List.map encApiWord y103.1.Words)), .d (.str y103.1.Comment)], [.d (.bool y104.1.Skip), .d (.list (List.map encApiWord y104.1.Words)), .d (.str y104.1.Comment)], [.d (.bool y105.1.Skip), .d (.list (List.map encApiWord y105.1.Words)), .d (.str y105.1.Comment)]], []⟩) (fun _ => rfl) ?_ ?_)
  ·refine Mir.ite (fun hb6 => ?_) (fun hb6 => ?_)
   ·refine Mir.ite (fun hb7 => ?_) (fun hb7 => ?_)
    ·refine Mir.ite (fun hb8 => ?_) (fun hb8 => ?_)
     ·refine Mir.ite (fun hb9 => ?_) (fun hb9 => ?_)
      ·refine Mir.bind fun y106 hy10 => Mir.bind fun y107 hy11 => Mir.ite (fun hb12 => ?_) (fun hb12 => ?_)
       ·refine Mir.ite (fun hb13 => ?_) (fun hb13 => ?_)
        ·refine Mir.ite (fun hb14 => ?_) (fun hb14 => ?_)
         ·refine Mir.ite (fun hb15 => ?_) (fun hb15 => ?_)
          ·refine Mir.regionD [] (by kernel_rfl) fun e h => ?_
           simp only [↓reduceIte, reduceCtorEq, nA, nS, nM, nE, nL, nT, nB, iT, iN, iE, and_self, SR, SV, sepL_nil, sepL_cons, sepV_ne, sepV_d, sepV_i, true_and, Bool.and_self, ag_36, sz_36, hb6, hb7, hb8, hb9, hb12, hb13, hb14, hb15]
           refine Spec.by (l41_example_spec hy10) (rfl) ?_
           simp only [↓reduceIte, reduceCtorEq, nA, nS, nM, nE, nL, nT, nB, iT, iN, iE, and_self, SR, SV, sepL_nil, sepL_cons, sepV_ne, sepV_d, sepV_i, true_and, Bool.and_self, hb6, hb7, hb8, hb9, hb12, hb13, hb14, hb15]
           refine Spec.by (r41_Equal_spec hy11) (by simp only [↓reduceIte, reduceCtorEq, nA, nE, nL, and_self, and_true, true_and, SL, hb6, hb7, hb8, hb9, hb12, hb13, hb14, hb15]) ?_
           simp only [↓reduceIte, reduceCtorEq, nA, nS, nM, nE, nL, nT, nB, iT, iN, iE, and_self, SR, SV, sepL_nil, sepL_cons, sepV_ne, sepV_d, sepV_i, true_and, Bool.and_self, hb6, hb7, hb8, hb9, hb12, hb13, hb14, hb15]
           cases h
           simp only [↓reduceIte, reduceCtorEq, nA, nE, nL, and_self, and_true, true_and, SL, hb6, hb7, hb8, hb9, hb12, hb13, hb14, hb15]
          ·refine Mir.regionD [] (by kernel_rfl) fun e h => ?_
           simp only [↓reduceIte, reduceCtorEq, nA, nS, nM, nE, nL, nT, nB, iT, iN, iE, and_self, SR, SV, sepL_nil, sepL_cons, sepV_ne, sepV_d, sepV_i, true_and, Bool.and_self, ag_36, sz_36, hb6, hb7, hb8, hb9, hb12, hb13, hb14, hb15]
           refine Spec.by (l41_example_spec hy10) (rfl) ?_
           simp only [↓reduceIte, reduceCtorEq, nA, nS, nM, nE, nL, nT, nB, iT, iN, iE, and_self, SR, SV, sepL_nil, sepL_cons, sepV_ne, sepV_d, sepV_i, true_and, Bool.and_self, hb6, hb7, hb8, hb9, hb12, hb13, hb14, hb15]
           refine Spec.by (r41_Equal_spec hy11) (by simp only [↓reduceIte, reduceCtorEq, nA, nE, nL, and_self, and_true, true_and, SL, hb6, hb7, hb8, hb9, hb12, hb13, hb14, hb15]) ?_
           simp only [↓reduceIte, reduceCtorEq, nA, nS, nM, nE, nL, nT, nB, iT, iN, iE, and_self, SR, SV, sepL_nil, sepL_cons, sepV_ne, sepV_d, sepV_i, true_and, Bool.and_self, hb6, hb7, hb8, hb9, hb12, hb13, hb14, hb15]
           cases h
           simp only [↓reduceIte, reduceCtorEq, nA, nE, nL, and_self, and_true, true_and, SL, hb6, hb7, hb8, hb9, hb12, hb13, hb14, hb15]
         ·refine Mir.regionD [] (by kernel_rfl) fun e h => ?_
          simp only [↓reduceIte, reduceCtorEq, nA, nS, nM, nE, nL, nT, nB, iT, iN, iE, and_self, SR, SV, sepL_nil, sepL_cons, sepV_ne, sepV_d, sepV_i, true_and, Bool.and_self, ag_36, sz_36, hb6, hb7, hb8, hb9, hb12, hb13, hb14]
          refine Spec.by (l41_example_spec hy10) (rfl) ?_
          simp only [↓reduceIte, reduceCtorEq, nA, nS, nM, nE, nL, nT, nB, iT, iN, iE, and_self, SR, SV, sepL_nil, sepL_cons, sepV_ne, sepV_d, sepV_i, true_and, Bool.and_self, hb6, hb7, hb8, hb9, hb12, hb13, hb14]
          refine Spec.by (r41_Equal_spec hy11) (by simp only [↓reduceIte, reduceCtorEq, nA, nE, nL, and_self, and_true, true_and, SL, hb6, hb7, hb8, hb9, hb12, hb13, hb14]) ?_
          simp only [↓reduceIte, reduceCtorEq, nA, nS, nM, nE, nL, nT, nB, iT, iN, iE, and_self, SR, SV, sepL_nil, sepL_cons, sepV_ne, sepV_d, sepV_i, true_and, Bool.and_self, hb6, hb7, hb8, hb9, hb12, hb13, hb14]
          cases h
          simp only [↓reduceIte, reduceCtorEq, nA, nE, nL, and_self, and_true, true_and, SL, hb6, hb7, hb8, hb9, hb12, hb13, hb14]
        ·refine Mir.regionD [] (by kernel_rfl) fun e h => ?_
         simp only [↓reduceIte, reduceCtorEq, nA, nS, nM, nE, nL, nT, nB, iT, iN, iE, and_self, SR, SV, sepL_nil, sepL_cons, sepV_ne, sepV_d, sepV_i, true_and, Bool.and_self, ag_36, sz_36, hb6, hb7, hb8, hb9, hb12, hb13]
         refine Spec.by (l41_example_spec hy10) (rfl) ?_
         simp only [↓reduceIte, reduceCtorEq, nA, nS, nM, nE, nL, nT, nB, iT, iN, iE, and_self, SR, SV, sepL_nil, sepL_cons, sepV_ne, sepV_d, sepV_i, true_and, Bool.and_self, hb6, hb7, hb8, hb9, hb12, hb13]
         refine Spec.by (r41_Equal_spec hy11) (by simp only [↓reduceIte, reduceCtorEq, nA, nE, nL, and_self, and_true, true_and, SL, hb6, hb7, hb8, hb9, hb12, hb13]) ?_
         simp only [↓reduceIte, reduceCtorEq, nA, nS, nM, nE, nL, nT, nB, iT, iN, iE, and_self, SR, SV, sepL_nil, sepL_cons, sepV_ne, sepV_d, sepV_i, true_and, Bool.and_self, hb6, hb7, hb8, hb9, hb12, hb13]
         cases h
         simp only [↓reduceIte, reduceCtorEq, nA, nE, nL, and_self, and_true, true_and, SL, hb6, hb7, hb8, hb9, hb12, hb13]
       ·refine Mir.regionD [] (by kernel_rfl) fun e h => ?_
        simp only [↓reduceIte, reduceCtorEq, nA, nS, nM, nE, nL, nT, nB, iT, iN, iE, and_self, SR, SV, sepL_nil, sepL_cons, sepV_ne, sepV_d, sepV_i, true_and, Bool.and_self, ag_36, sz_36, hb6, hb7, hb8, hb9, hb12]
        refine Spec.by (l41_example_spec hy10) (rfl) ?_
        simp only [↓reduceIte, reduceCtorEq, nA, nS, nM, nE, nL, nT, nB, iT, iN, iE, and_self, SR, SV, sepL_nil, sepL_cons, sepV_ne, sepV_d, sepV_i, true_and, Bool.and_self, hb6, hb7, hb8, hb9, hb12]
        refine Spec.by (r41_Equal_spec hy11) (by simp only [↓reduceIte, reduceCtorEq, nA, nE, nL, and_self, and_true, true_and, SL, hb6, hb7, hb8, hb9, hb12]) ?_
        simp only [↓reduceIte, reduceCtorEq, nA, nS, nM, nE, nL, nT, nB, iT, iN, iE, and_self, SR, SV, sepL_nil, sepL_cons, sepV_ne, sepV_d, sepV_i, true_and, Bool.and_self, hb6, hb7, hb8, hb9, hb12]
        cases h
        simp only [↓reduceIte, reduceCtorEq, nA, nE, nL, and_self, and_true, true_and, SL, hb6, hb7, hb8, hb9, hb12]
      ·refine Mir.regionD [] (by kernel_rfl) fun e h => ?_
       simp only [↓reduceIte, reduceCtorEq, nA, nS, nM, nE, nL, nT, nB, iT, iN, iE, and_self, SR, SV, sepL_nil, sepL_cons, sepV_ne, sepV_d, sepV_i, true_and, Bool.and_self, hb6, hb7, hb8, hb9]
       cases h
       simp only [↓reduceIte, reduceCtorEq, nA, nE, nL, and_self, and_true, true_and, SL, hb6, hb7, hb8, hb9]
     ·refine Mir.regionD [] (by kernel_rfl) fun e h => ?_
      simp only [↓reduceIte, reduceCtorEq, nA, nS, nM, nE, nL, nT, nB, iT, iN, iE, and_self, SR, SV, sepL_nil, sepL_cons, sepV_ne, sepV_d, sepV_i, true_and, Bool.and_self, hb6, hb7, hb8]
      cases h
      simp only [↓reduceIte, reduceCtorEq, nA, nE, nL, and_self, and_true, true_and, SL, hb6, hb7, hb8]
    ·refine Mir.regionD [] (by kernel_rfl) fun e h => ?_
     simp only [↓reduceIte, reduceCtorEq, nA, nS, nM, nE, nL, nT, nB, iT, iN, iE, and_self, SR, SV, sepL_nil, sepL_cons, sepV_ne, sepV_d, sepV_i, true_and, Bool.and_self, hb6, hb7]
     cases h
     simp only [↓reduceIte, reduceCtorEq, nA, nE, nL, and_self, and_true, true_and, SL, hb6, hb7]
   ·refine Mir.regionD [] (by kernel_rfl) fun e h => ?_
    simp only [↓reduceIte, reduceCtorEq, nA, nS, nM, nE, nL, nT, nB, iT, iN, iE, and_self, SR, SV, sepL_nil, sepL_cons, sepV_ne, sepV_d, sepV_i, true_and, Bool.and_self, hb6]
    cases h
    simp only [↓reduceIte, reduceCtorEq, nA, nE, nL, and_self, and_true, true_and, SL, hb6]
  ·intro v108
   refine Mir.toK (Mir.ret fun e h => ?_)
   cases h
   simp only [↓reduceIte, reduceCtorEq, nA, nE, nL, and_self, and_true, true_and, SL, Tryz.results5]

def r41_Few (a0 : (List ApiBlock)) (a1 : Int) : Option Bool :=
  if (decide ((a0.length : Int) > a1)) = true then
    some false
  else
    bindX (guardO (okIdx a0) (
        rangeX (fun (i139 : Nat) (e141 : ApiBlock) (v140 : Unit) =>
          if ((decide ((e141.Words.length : Int) > 20)) || (decide ((e141.Comment.length : Int) > 120))) = true then
            some (.ret (.ret false))
          else
            some (.go ())) (fun (v140 : Unit) => some (.go ())) a0 0 ())) fun (v121 : Unit) =>
    some true
theorem r41_Few_spec {a0 : (List ApiBlock)} {a1 : Int} {y : Bool} (h : r41_Few a0 a1 = some y) : Spec gP 9 [.d (.list (List.map encApiBlock a0)), .d (.int .i64 a1)] (.d (.bool y)) := by
  refine spec_mir Tryz.func9 rfl (by kernel_rfl) (by kernel_rfl) (fun y : Bool => .d (.bool y)) ?_ h
  unfold r41_Few
  simp only [List.replicate, List.length, nS, nA, Tryz.ntmps9, SV]
  refine Mir.seqK (Mir.region fun e h => ?_)
  simp only [↓reduceIte, reduceCtorEq, nA, nS, nM, nE, nL, nT, nB, iT, iN, iE, and_self, SR, SV, ENMB]
  refine Mir.use (e := e) ?_ h
  refine Mir.seqK (Mir.seqK (Mir.region fun e h => ?_))
  simp only [↓reduceIte, reduceCtorEq, nA, nS, nM, nE, nL, nT, nB, iT, iN, iE, and_self, SR, SV, und_23, ENMB]
  refine Mir.use (e := e) ?_ h
  refine Mir.cond rfl (fun hb2 => ?_) (fun hb2 => ?_)
  ·refine Mir.seqK (Mir.region fun e h => ?_)
   simp only [↓reduceIte, reduceCtorEq, nA, nS, nM, nE, nL, nT, nB, iT, iN, iE, and_self, SR, SV, ENMB]
   refine Mir.use (e := e) ?_ h
   refine Mir.ret fun e h => ?_
   cases h
   simp only [↓reduceIte, reduceCtorEq, nA, nE, nL, and_self, and_true, true_and, SL, ENMB, Tryz.results9]
  ·refine Mir.skip (Mir.toK (Mir.seqK (Mir.seqK (Mir.region fun e h => ?_))))
   simp only [↓reduceIte, reduceCtorEq, nA, nS, nM, nE, nL, nT, nB, iT, iN, iE, and_self, SR, SV, ENMB]
   refine Mir.use (e := e) ?_ h
   refine Mir.join (fun v121 : Unit => [U, U, U, U, U, U, U, U, U, U, U, U, U, U, U, U, U, U, U, U, U, U, U, U, U, U, U, U, U, U, U, U]) (fun v121 : Unit => ⟨[], []⟩) (fun _ => rfl) ?_ ?_
   ·refine Mir.block (Mir.guard fun qg67 => Mir.range (fun (i139 : Nat) (v140 : Unit) => [.d (.list (List.map encApiBlock a0)), U, U, U, U, .d (.int .i64 (i139 : Int)), U, U, U, U, U, U, U, U, U, U, U, U, U, U, U, U, U, U, U, U, U, U, U, U, U, U]) (fun (i139 : Nat) (v140 : Unit) => ⟨[], []⟩) qg67 (fun _ _ => rfl) (by simp only [↓reduceIte, reduceCtorEq, nA, nE, nL, and_self, and_true, true_and, SL, ENMB, (nr rfl : ((0 : Nat) : Int) = 0)]) (by simp only [↓reduceIte, reduceCtorEq, nA, nE, nL, and_self, and_true, true_and, SL, ENMB, (nr rfl : ((0 : Nat) : Int) = 0)]) ?_ ?_)
    ·intro i139 e141 v140 qr65
     refine Mir.seqK (Mir.seqK (Mir.region fun e h => ?_))
     simp only [↓reduceIte, reduceCtorEq, nA, nS, nM, nE, nL, nT, nB, iT, iN, iE, and_self, SR, SV, und_23, qr65, ENMB]
     refine Mir.use (e := e) ?_ h
     refine Mir.condT rfl (Mir.skip (Mir.toK (Mir.seqK (Mir.block (Mir.seqK (Mir.joinV [.d (.list (List.map encApiBlock a0)), U, U, U, U, .d (.int .i64 (i139 : Int)), U, U, U, U, U, U, U, U, U, U, U, U, U, U, U, U, U, U, U, U, U, U, U, U, U, .d (.bool ((decide ((e141.Words.length : Int) > 20)) || (decide ((e141.Comment.length : Int) > 120))))] ⟨[], []⟩ rfl ?_ ?_))))))
     ·refine SWs.region ?_
      rcases Bool.eq_false_or_eq_true (decide ((e141.Words.length : Int) > 20)) with hb70 | hb70
      ·simp only [↓reduceIte, reduceCtorEq, nA, nS, nM, nE, nL, nT, nB, iT, iN, iE, and_self, SR, SV, SL, PB, und_23, sz_36, qr65, Int.toNat_natCast, fld_36_1, sz_34, ag_34, und_34, hb70, ENMB]
      ·simp only [↓reduceIte, reduceCtorEq, nA, nS, nM, nE, nL, nT, nB, iT, iN, iE, and_self, SR, SV, SL, PB, und_23, sz_36, qr65, Int.toNat_natCast, fld_36_1, sz_34, ag_34, und_34, fld_36_2, sz_9, ag_9, und_9, hb70, ENMB]
     ·refine Mir.toK (Mir.cond rfl (fun hb72 => ?_) (fun hb72 => ?_))
      ·refine Mir.seqK (Mir.region fun e h => ?_)
       simp only [↓reduceIte, reduceCtorEq, nA, nS, nM, nE, nL, nT, nB, iT, iN, iE, and_self, SR, SV, ENMB]
       refine Mir.use (e := e) ?_ h
       refine Mir.ret fun e h => ?_
       cases h
       simp only [↓reduceIte, reduceCtorEq, nA, nE, nL, and_self, and_true, true_and, SL, ENMB, Tryz.results9]
      ·refine Mir.skip (Mir.toB (Mir.toK (Mir.region fun e h => ?_)))
       simp only [↓reduceIte, reduceCtorEq, nA, nS, nM, nE, nL, nT, nB, iT, iN, iE, and_self, SR, SV, ENMB]
       cases h
       simp only [↓reduceIte, reduceCtorEq, nA, nE, nL, and_self, and_true, true_and, SL, ENMB, Tryz.results9, qr65]
    ·intro v140 qd66
     refine Mir.seqK (Mir.seqK (Mir.region fun e h => ?_))
     simp only [↓reduceIte, reduceCtorEq, nA, nS, nM, nE, nL, nT, nB, iT, iN, iE, and_self, SR, SV, und_23, qd66, ENMB]
     refine Mir.use (e := e) ?_ h
     refine Mir.condF rfl (Mir.exit fun e h => ?_)
     cases h
     simp only [↓reduceIte, reduceCtorEq, nA, nE, nL, and_self, and_true, true_and, SL, ENMB, Tryz.results9]
   ·intro v121
    refine Mir.toK (Mir.seqK (Mir.region fun e h => ?_))
    simp only [↓reduceIte, reduceCtorEq, nA, nS, nM, nE, nL, nT, nB, iT, iN, iE, and_self, SR, SV, ENMB]
    refine Mir.use (e := e) ?_ h
    refine Mir.ret fun e h => ?_
    cases h
    simp only [↓reduceIte, reduceCtorEq, nA, nE, nL, and_self, and_true, true_and, SL, ENMB, Tryz.results9]

def r41_digits (a0 : Int) : Option (List UInt8) :=
  bindO (loopX (fun (v113 : Int × (List UInt8)) =>
        if ((decide (v113.1 > 0)) || (v113.2 == [])) = true then
          guardO (okStr (runeS (IntKind.i32.wrap (IntKind.u64.wrap (48 + (Int.tmod v113.1 10))))) v113.2) (
          some (.go (IntKind.u64.wrap (Int.tdiv v113.1 10), (runeS (IntKind.i32.wrap (IntKind.u64.wrap (48 + (Int.tmod v113.1 10))))) ++ v113.2)))
        else
          some (.ret v113.2)) fuel (a0, [])) fun (v107 : (List UInt8)) =>
  some v107
theorem r41_digits_spec {a0 : Int} {y : (List UInt8)} (h : r41_digits a0 = some y) : Spec gP 63 [.d (.int .u64 a0)] (.d (.str y)) := by
  refine spec_mir Tryz.func63 rfl (by kernel_rfl) (by kernel_rfl) (fun y : (List UInt8) => .d (.str y)) ?_ h
  unfold r41_digits
  simp only [List.replicate, List.length, nS, nA, Tryz.ntmps63, SV]
  refine Mir.seqK (Mir.region fun e h => ?_)
  simp only [↓reduceIte, reduceCtorEq, nA, nS, nM, nE, nL, nT, nB, iT, iN, iE, and_self, SR, SV]
  refine Mir.use (e := e) ?_ h
  refine Mir.seqK (Mir.region fun e h => ?_)
  simp only [↓reduceIte, reduceCtorEq, nA, nS, nM, nE, nL, nT, nB, iT, iN, iE, and_self, SR, SV]
  refine Mir.use (e := e) ?_ h
  refine Mir.seqK (Mir.joinO (fun v107 : (List UInt8) => [U, U, U, .d (.str v107), U, U, U, U, U, U, U, U, U, U, U, U, U, U, U, U]) (fun v107 : (List UInt8) => ⟨[], []⟩) (fun _ => rfl) ?_ ?_)
  ·refine Mir.block (Mir.loop (fun v113 : Int × (List UInt8) => [.d (.int .u64 v113.1), U, U, .d (.str v113.2), U, U, U, U, U, U, U, U, U, U, U, U, U, U, U, U]) (fun v113 : Int × (List UInt8) => ⟨[], []⟩) (fun _ => rfl) (by simp only [↓reduceIte, reduceCtorEq, nA, nE, nL, and_self, and_true, true_and, SL]) (by simp only [↓reduceIte, reduceCtorEq, nA, nE, nL, and_self, and_true, true_and, SL]) fun v113 => Mir.seqK (Mir.seqK (Mir.joinV [.d (.int .u64 v113.1), U, U, .d (.str v113.2), U, U, U, U, U, .d (.bool ((decide (v113.1 > 0)) || (v113.2 == []))), U, U, U, U, U, U, U, U, U, U] ⟨[], []⟩ rfl ?_ ?_)))
   ·refine SWs.region ?_
    rcases Bool.eq_false_or_eq_true (decide (v113.1 > 0)) with hb25 | hb25
    ·simp only [↓reduceIte, reduceCtorEq, nA, nS, nM, nE, nL, nT, nB, iT, iN, iE, and_self, SR, SV, SL, PB, hb25]
    ·simp only [↓reduceIte, reduceCtorEq, nA, nS, nM, nE, nL, nT, nB, iT, iN, iE, and_self, SR, SV, SL, PB, hb25]
   ·refine Mir.toK (Mir.cond rfl (fun hb27 => ?_) (fun hb27 => ?_))
    ·refine Mir.skip (Mir.toK (Mir.block (Mir.seqK (Mir.guard fun q28 => ?_))))
     replace q28 := okStr_ok q28
     refine Mir.region fun e h => ?_
     simp only [↓reduceIte, reduceCtorEq, nA, nS, nM, nE, nL, nT, nB, iT, iN, iE, and_self, SR, SV, und_73, und_21, und_9, rune_enc, q28]
     refine Mir.use (e := e) ?_ h
     refine Mir.region fun e h => ?_
     simp only [↓reduceIte, reduceCtorEq, nA, nS, nM, nE, nL, nT, nB, iT, iN, iE, and_self, SR, SV]
     cases h
     simp only [↓reduceIte, reduceCtorEq, nA, nE, nL, and_self, and_true, true_and, SL, Tryz.results63]
    ·refine Mir.exit fun e h => ?_
     cases h
     simp only [↓reduceIte, reduceCtorEq, nA, nE, nL, and_self, and_true, true_and, SL, Tryz.results63]
  ·intro v107
   refine Mir.toK (Mir.seqK (Mir.region fun e h => ?_))
   simp only [↓reduceIte, reduceCtorEq, nA, nS, nM, nE, nL, nT, nB, iT, iN, iE, and_self, SR, SV]
   refine Mir.use (e := e) ?_ h
   refine Mir.ret fun e h => ?_
   cases h
   simp only [↓reduceIte, reduceCtorEq, nA, nE, nL, and_self, and_true, true_and, SL, Tryz.results63]

def r41_Text (a0 : Int) : Option (List UInt8) :=
  bindO (if (decide (a0 < 0)) = true then
        some ([45], IntKind.u64.wrap (0 - (IntKind.u64.wrap a0)))
      else
        some ([], IntKind.u64.wrap a0)) fun (v101 : (List UInt8) × Int) =>
  bindO (r41_digits (IntKind.u64.wrap (Int.tdiv v101.2 1000))) fun (y102 : (List UInt8)) =>
  guardO (okStr v101.1 y102) (
  bindO (if (decide ((Int.tmod v101.2 1000) > 0)) = true then
        bindO (r41_digits (IntKind.u64.wrap (1000 + (Int.tmod v101.2 1000)))) fun (y135 : (List UInt8)) =>
        bindO (cutF y135 1) fun (s136 : (List UInt8)) =>
        bindO (loopX (fun (v163 : (List UInt8)) =>
              bindO (gt v163 (IntKind.i64.wrap ((v163.length : Int) - 1))) fun (c164 : UInt8) =>
              if ((c164.toNat : Int) == 48) = true then
                bindO (cutT v163 (IntKind.i64.wrap ((v163.length : Int) - 1))) fun (s165 : (List UInt8)) =>
                some (.go s165)
              else
                some (.ret v163)) fuel s136) fun (v151 : (List UInt8)) =>
        guardO (okStr (v101.1 ++ y102) [46]) (
        guardO (okStr ((v101.1 ++ y102) ++ [46]) v151) (
        some (((v101.1 ++ y102) ++ [46]) ++ v151)))
      else
        some (v101.1 ++ y102)) fun (v134 : (List UInt8)) =>
  some v134)
theorem r41_Text_spec {a0 : Int} {y : (List UInt8)} (h : r41_Text a0 = some y) : Spec gP 51 [.d (.int .i64 a0)] (.d (.str y)) := by
  refine spec_mir Tryz.func51 rfl (by kernel_rfl) (by kernel_rfl) (fun y : (List UInt8) => .d (.str y)) ?_ h
  unfold r41_Text
  simp only [List.replicate, List.length, nS, nA, Tryz.ntmps51, SV]
  refine Mir.seqK (Mir.region fun e h => ?_)
  simp only [↓reduceIte, reduceCtorEq, nA, nS, nM, nE, nL, nT, nB, iT, iN, iE, and_self, SR, SV]
  refine Mir.use (e := e) ?_ h
  refine Mir.seqK (Mir.region fun e h => ?_)
  simp only [↓reduceIte, reduceCtorEq, nA, nS, nM, nE, nL, nT, nB, iT, iN, iE, and_self, SR, SV, und_2, und_73]
  refine Mir.use (e := e) ?_ h
  refine Mir.seqK (Mir.seqK (Mir.region fun e h => ?_))
  simp only [↓reduceIte, reduceCtorEq, nA, nS, nM, nE, nL, nT, nB, iT, iN, iE, and_self, SR, SV]
  refine Mir.use (e := e) ?_ h
  refine Mir.joinO (fun v101 : (List UInt8) × Int => [U, U, U, .d (.str v101.1), .d (.int .u64 v101.2), U, U, U, U, U, U, U, U, U, U, U, U, U, U, U, U, U, U, U, U, U, U, U, U, U, U, U, U, U, U, U, U, U, U, U, U, U, U]) (fun v101 : (List UInt8) × Int => ⟨[], []⟩) (fun _ => rfl) ?_ ?_
  ·refine Mir.cond rfl (fun hb2 => ?_) (fun hb2 => ?_)
   ·refine Mir.region fun e h => ?_
    simp only [↓reduceIte, reduceCtorEq, nA, nS, nM, nE, nL, nT, nB, iT, iN, iE, and_self, SR, SV]
    cases h
    simp only [↓reduceIte, reduceCtorEq, nA, nE, nL, and_self, and_true, true_and, SL, Tryz.results51]
   ·refine Mir.skip fun e h => ?_
    cases h
    simp only [↓reduceIte, reduceCtorEq, nA, nE, nL, and_self, and_true, true_and, SL, Tryz.results51]
  ·intro v101
   refine Mir.toK (Mir.seqK (Mir.bind fun y102 hy3 => Mir.guard fun q4 => ?_))
   replace q4 := okStr_ok q4
   refine Mir.region fun e h => ?_
   simp only [↓reduceIte, reduceCtorEq, nA, nS, nM, nE, nL, nT, nB, iT, iN, iE, and_self, SR, SV]
   refine SpecS.by (r41_digits_spec hy3) (by simp only [↓reduceIte, reduceCtorEq, nA, nE, nL, and_self, and_true, true_and, SL]) ?_
   simp only [↓reduceIte, reduceCtorEq, nA, nS, nM, nE, nL, nT, nB, iT, iN, iE, and_self, SR, SV, q4]
   refine Mir.use (e := e) ?_ h
   refine Mir.seqK (Mir.region fun e h => ?_)
   simp only [↓reduceIte, reduceCtorEq, nA, nS, nM, nE, nL, nT, nB, iT, iN, iE, and_self, SR, SV]
   refine Mir.use (e := e) ?_ h
   refine Mir.seqK (Mir.seqK (Mir.region fun e h => ?_))
   simp only [↓reduceIte, reduceCtorEq, nA, nS, nM, nE, nL, nT, nB, iT, iN, iE, and_self, SR, SV]
   refine Mir.use (e := e) ?_ h
   refine Mir.joinO (fun v134 : (List UInt8) => [U, U, U, U, U, .d (.str v134), U, U, U, U, U, U, U, U, U, U, U, U, U, U, U, U, U, U, U, U, U, U, U, U, U, U, U, U, U, U, U, U, U, U, U, U, U]) (fun v134 : (List UInt8) => ⟨[], []⟩) (fun _ => rfl) ?_ ?_
   ·refine Mir.cond rfl (fun hb38 => ?_) (fun hb38 => ?_)
    ·refine Mir.seqK (Mir.bind fun y135 hy39 => Mir.bind fun s136 q40 => ?_)
     replace q40 := cutF_ok q40
     simp only [Int.reduceToNat, Int.reduceLT, Nat.sub_zero, dp0] at q40
     refine Mir.region fun e h => ?_
     simp only [↓reduceIte, reduceCtorEq, nA, nS, nM, nE, nL, nT, nB, iT, iN, iE, and_self, SR, SV]
     refine SpecS.by (r41_digits_spec hy39) (by simp only [↓reduceIte, reduceCtorEq, nA, nE, nL, and_self, and_true, true_and, SL]) ?_
     simp only [↓reduceIte, reduceCtorEq, nA, nS, nM, nE, nL, nT, nB, iT, iN, iE, and_self, SR, SV, und_9, q40, Nat.le_refl, and_true, true_and, dm, tm]
     refine Mir.use (e := e) ?_ h
     refine Mir.seqK (Mir.joinO (fun v151 : (List UInt8) => [U, U, U, U, U, .d (.str (v101.1 ++ y102)), U, .d (.str v151), U, U, U, U, U, U, U, U, U, U, U, U, U, U, U, U, U, U, U, U, U, U, U, U, U, U, U, U, U, U, U, U, U, U, U]) (fun v151 : (List UInt8) => ⟨[], []⟩) (fun _ => rfl) ?_ ?_)
     ·refine Mir.block (Mir.loop (fun v163 : (List UInt8) => [U, U, U, U, U, .d (.str (v101.1 ++ y102)), U, .d (.str v163), U, U, U, U, U, U, U, U, U, U, U, U, U, U, U, U, U, U, U, U, U, U, U, U, U, U, U, U, U, U, U, U, U, U, U]) (fun v163 : (List UInt8) => ⟨[], []⟩) (fun _ => rfl) (by simp only [↓reduceIte, reduceCtorEq, nA, nE, nL, and_self, and_true, true_and, SL]) (by simp only [↓reduceIte, reduceCtorEq, nA, nE, nL, and_self, and_true, true_and, SL]) fun v163 => Mir.seqK (Mir.seqK (Mir.bind fun c164 q65 => ?_)))
      replace q65 := gt_ok q65
      refine Mir.region fun e h => ?_
      simp only [↓reduceIte, reduceCtorEq, nA, nS, nM, nE, nL, nT, nB, iT, iN, iE, and_self, SR, SV, und_9, q65]
      refine Mir.use (e := e) ?_ h
      refine Mir.cond rfl (fun hb67 => ?_) (fun hb67 => ?_)
      ·refine Mir.skip (Mir.toK (Mir.block (Mir.bind fun s165 q68 => ?_)))
       replace q68 := cutT_ok q68
       refine Mir.region fun e h => ?_
       simp only [↓reduceIte, reduceCtorEq, nA, nS, nM, nE, nL, nT, nB, iT, iN, iE, and_self, SR, SV, und_9, q68, Nat.le_refl, and_true, true_and, dm, tm]
       cases h
       simp only [↓reduceIte, reduceCtorEq, nA, nE, nL, and_self, and_true, true_and, SL, Tryz.results51]
      ·refine Mir.exit fun e h => ?_
       cases h
       simp only [↓reduceIte, reduceCtorEq, nA, nE, nL, and_self, and_true, true_and, SL, Tryz.results51]
     ·intro v151
      refine Mir.toK (Mir.guard fun q69 => ?_)
      replace q69 := okStr_ok q69
      try simp only [lm, xNA, xCA, xAN, xLC, xLN, xAC, xAL, nA, Nat.zero_add] at q69
      refine Mir.guard fun q70 => ?_
      replace q70 := okStr_ok q70
      try simp only [lm, xNA, xCA, xAN, xLC, xLN, xAC, xAL, nA, Nat.zero_add] at q70
      refine Mir.region fun e h => ?_
      simp only [↓reduceIte, reduceCtorEq, nA, nS, nM, nE, nL, nT, nB, iT, iN, iE, and_self, SR, SV, q69, q70]
      cases h
      simp only [↓reduceIte, reduceCtorEq, nA, nE, nL, and_self, and_true, true_and, SL, Tryz.results51]
    ·refine Mir.skip fun e h => ?_
     cases h
     simp only [↓reduceIte, reduceCtorEq, nA, nE, nL, and_self, and_true, true_and, SL, Tryz.results51]
   ·intro v134
    refine Mir.toK (Mir.seqK (Mir.region fun e h => ?_))
    simp only [↓reduceIte, reduceCtorEq, nA, nS, nM, nE, nL, nT, nB, iT, iN, iE, and_self, SR, SV]
    refine Mir.use (e := e) ?_ h
    refine Mir.ret fun e h => ?_
    cases h
    simp only [↓reduceIte, reduceCtorEq, nA, nE, nL, and_self, and_true, true_and, SL, Tryz.results51]

def r41_canonical (a0 : (List UInt8)) : Option Bool :=
  bindO (if (decide ((a0.length : Int) > 0)) = true then
        bindO (gt a0 0) fun (c101 : UInt8) =>
        some ((c101.toNat : Int) == 45)
      else
        some false) fun (v102 : Bool) =>
  bindX (if v102 = true then
        if (a0 == [45, 48]) = true then
          some (.ret false)
        else
          bindO (cutF a0 1) fun (s105 : (List UInt8)) =>
          some (.go s105)
      else
        some (.go a0)) fun (v104 : (List UInt8)) =>
  bindO (guardO (okIdx v104) (
      rangeX (fun (i139 : Nat) (c141 : UInt8) (v140 : Int) =>
        bindO (if ((c141.toNat : Int) == 46) = true then
              some (i139 : Int)
            else
              some v140) fun (v142 : Int) =>
        some (.go v142)) (fun (v140 : Int) => some v140) v104 0 (v104.length : Int))) fun (v124 : Int) =>
  bindO (if (v124 == 0) = true then
        some true
      else
        if (decide (v124 > 1)) = true then
          bindO (gt v104 0) fun (c143 : UInt8) =>
          some ((c143.toNat : Int) == 48)
        else
          some false) fun (v144 : Bool) =>
  if v144 = true then
    some false
  else
    bindO (if (v124 == (v104.length : Int)) = true then
          some true
        else
          if (decide (v124 < (IntKind.i64.wrap ((v104.length : Int) - 1)))) = true then
            bindO (gt v104 (IntKind.i64.wrap ((v104.length : Int) - 1))) fun (c145 : UInt8) =>
            some ((c145.toNat : Int) != 48)
          else
            some false) fun (v146 : Bool) =>
    some v146
set_option maxHeartbeats 8000000 in
theorem r41_canonical_spec {a0 : (List UInt8)} {y : Bool} (h : r41_canonical a0 = some y) : Spec gP 49 [.d (.str a0)] (.d (.bool y)) := by
  refine spec_mir Tryz.func49 rfl (by kernel_rfl) (by kernel_rfl) (fun y : Bool => .d (.bool y)) ?_ h
  unfold r41_canonical
  simp only [List.replicate, List.length, nS, nA, Tryz.ntmps49, SV]
  refine Mir.seqK (Mir.region fun e h => ?_)
  simp only [↓reduceIte, reduceCtorEq, nA, nS, nM, nE, nL, nT, nB, iT, iN, iE, and_self, SR, SV]
  refine Mir.use (e := e) ?_ h
  refine Mir.seqK (Mir.seqK (Mir.joinO (fun v102 : Bool => [.d (.str a0), U, U, U, U, U, U, U, U, U, U, U, .d (.bool v102), U, U, U, U, U, U, U, U, U, U, U, U, U, U, U, U, U, U, U, U, U, U, U, U, U, U, U, U, U, U, U, U, U, U, U, U, U, U, U, U, U, U, U, U, U, U, U]) (fun v102 : Bool => ⟨[], []⟩) (fun _ => rfl) ?_ ?_))
  ·refine Mir.ite (fun hb1 => ?_) (fun hb1 => ?_)
   ·refine Mir.bind fun c101 q2 => ?_
    replace q2 := gt_ok q2
    simp only [Int.reduceToNat, Int.reduceLT, Nat.sub_zero, dp0] at q2
    refine Mir.region fun e h => ?_
    simp only [↓reduceIte, reduceCtorEq, nA, nS, nM, nE, nL, nT, nB, iT, iN, iE, and_self, SR, SV, und_9, q2, hb1]
    cases h
    simp only [↓reduceIte, reduceCtorEq, nA, nE, nL, and_self, and_true, true_and, SL, hb1]
   ·refine Mir.region fun e h => ?_
    simp only [↓reduceIte, reduceCtorEq, nA, nS, nM, nE, nL, nT, nB, iT, iN, iE, and_self, SR, SV, und_9, hb1]
    cases h
    simp only [↓reduceIte, reduceCtorEq, nA, nE, nL, and_self, and_true, true_and, SL, hb1]
  ·intro v102
   refine Mir.toK (Mir.join (fun v104 : (List UInt8) => [.d (.str v104), U, U, U, U, U, U, U, U, U, U, U, U, U, U, U, U, U, U, U, U, U, U, U, U, U, U, U, U, U, U, U, U, U, U, U, U, U, U, U, U, U, U, U, U, U, U, U, U, U, U, U, U, U, U, U, U, U, U, U]) (fun v104 : (List UInt8) => ⟨[], []⟩) (fun _ => rfl) ?_ ?_)
   ·refine Mir.cond rfl (fun hb7 => ?_) (fun hb7 => ?_)
    ·refine Mir.seqK (Mir.seqK (Mir.region fun e h => ?_))
     simp only [↓reduceIte, reduceCtorEq, nA, nS, nM, nE, nL, nT, nB, iT, iN, iE, and_self, SR, SV]
     refine Mir.use (e := e) ?_ h
     refine Mir.cond rfl (fun hb9 => ?_) (fun hb9 => ?_)
     ·refine Mir.seqK (Mir.region fun e h => ?_)
      simp only [↓reduceIte, reduceCtorEq, nA, nS, nM, nE, nL, nT, nB, iT, iN, iE, and_self, SR, SV]
      refine Mir.use (e := e) ?_ h
      refine Mir.ret fun e h => ?_
      cases h
      simp only [↓reduceIte, reduceCtorEq, nA, nE, nL, and_self, and_true, true_and, SL, Tryz.results49]
     ·refine Mir.skip (Mir.toK (Mir.bind fun s105 q10 => ?_))
      replace q10 := cutF_ok q10
      simp only [Int.reduceToNat, Int.reduceLT, Nat.sub_zero, dp0] at q10
      refine Mir.region fun e h => ?_
      simp only [↓reduceIte, reduceCtorEq, nA, nS, nM, nE, nL, nT, nB, iT, iN, iE, and_self, SR, SV, und_9, q10, Nat.le_refl, and_true, true_and, dm, tm]
      cases h
      simp only [↓reduceIte, reduceCtorEq, nA, nE, nL, and_self, and_true, true_and, SL, Tryz.results49]
    ·refine Mir.skip fun e h => ?_
     cases h
     simp only [↓reduceIte, reduceCtorEq, nA, nE, nL, and_self, and_true, true_and, SL, Tryz.results49]
   ·intro v104
    refine Mir.toK (Mir.seqK (Mir.region fun e h => ?_))
    simp only [↓reduceIte, reduceCtorEq, nA, nS, nM, nE, nL, nT, nB, iT, iN, iE, and_self, SR, SV, und_9]
    refine Mir.use (e := e) ?_ h
    refine Mir.seqK (Mir.seqK (Mir.region fun e h => ?_))
    simp only [↓reduceIte, reduceCtorEq, nA, nS, nM, nE, nL, nT, nB, iT, iN, iE, and_self, SR, SV]
    refine Mir.use (e := e) ?_ h
    refine Mir.joinO (fun v124 : Int => [.d (.str v104), U, U, .d (.int .i64 v124), U, U, U, U, U, U, U, U, U, U, U, U, U, U, U, U, U, U, U, U, U, U, U, U, U, U, U, U, U, U, U, U, U, U, U, U, U, U, U, U, U, U, U, U, U, U, U, U, U, U, U, U, U, U, U, U]) (fun v124 : Int => ⟨[], []⟩) (fun _ => rfl) ?_ ?_
    ·refine Mir.block (Mir.guard fun qg54 => Mir.range (fun (i139 : Nat) (v140 : Int) => [.d (.str v104), U, U, .d (.int .i64 v140), .d (.int .i64 (i139 : Int)), U, U, U, U, U, U, U, U, U, U, U, U, U, U, U, U, U, U, U, U, U, U, U, U, U, U, U, U, U, U, U, U, U, U, U, U, U, U, U, U, U, U, U, U, U, U, U, U, U, U, U, U, U, U, U]) (fun (i139 : Nat) (v140 : Int) => ⟨[], []⟩) qg54 (fun _ _ => rfl) (by simp only [↓reduceIte, reduceCtorEq, nA, nE, nL, and_self, and_true, true_and, SL, (nr rfl : ((0 : Nat) : Int) = 0)]) (by simp only [↓reduceIte, reduceCtorEq, nA, nE, nL, and_self, and_true, true_and, SL, (nr rfl : ((0 : Nat) : Int) = 0)]) ?_ ?_)
     ·intro i139 c141 v140 qr52
      refine Mir.seqK (Mir.seqK (Mir.region fun e h => ?_))
      simp only [↓reduceIte, reduceCtorEq, nA, nS, nM, nE, nL, nT, nB, iT, iN, iE, and_self, SR, SV, und_9, qr52]
      refine Mir.use (e := e) ?_ h
      refine Mir.condT rfl (Mir.skip (Mir.toK (Mir.seqK (Mir.joinO (fun v142 : Int => [.d (.str v104), U, U, .d (.int .i64 v142), .d (.int .i64 (i139 : Int)), U, U, U, U, U, U, U, U, U, U, U, U, U, U, U, U, U, U, U, U, U, U, U, U, U, U, U, U, U, U, U, U, U, U, U, U, U, U, U, U, U, U, U, U, U, U, U, U, U, U, U, U, U, U, U]) (fun v142 : Int => ⟨[], []⟩) (fun _ => rfl) ?_ ?_))))
      ·refine Mir.block (Mir.seqK (Mir.region fun e h => ?_))
       simp only [↓reduceIte, reduceCtorEq, nA, nS, nM, nE, nL, nT, nB, iT, iN, iE, and_self, SR, SV, und_9, Int.toNat_natCast, qr52]
       refine Mir.use (e := e) ?_ h
       refine Mir.cond rfl (fun hb56 => ?_) (fun hb56 => ?_)
       ·refine Mir.region fun e h => ?_
        simp only [↓reduceIte, reduceCtorEq, nA, nS, nM, nE, nL, nT, nB, iT, iN, iE, and_self, SR, SV]
        cases h
        simp only [↓reduceIte, reduceCtorEq, nA, nE, nL, and_self, and_true, true_and, SL, Tryz.results49]
       ·refine Mir.skip fun e h => ?_
        cases h
        simp only [↓reduceIte, reduceCtorEq, nA, nE, nL, and_self, and_true, true_and, SL, Tryz.results49]
      ·intro v142
       refine Mir.toK (Mir.region fun e h => ?_)
       simp only [↓reduceIte, reduceCtorEq, nA, nS, nM, nE, nL, nT, nB, iT, iN, iE, and_self, SR, SV]
       cases h
       simp only [↓reduceIte, reduceCtorEq, nA, nE, nL, and_self, and_true, true_and, SL, Tryz.results49, qr52]
     ·intro v140 qd53
      refine Mir.seqK (Mir.seqK (Mir.region fun e h => ?_))
      simp only [↓reduceIte, reduceCtorEq, nA, nS, nM, nE, nL, nT, nB, iT, iN, iE, and_self, SR, SV, und_9, qd53]
      refine Mir.use (e := e) ?_ h
      refine Mir.condF rfl (Mir.exit fun e h => ?_)
      cases h
      simp only [↓reduceIte, reduceCtorEq, nA, nE, nL, and_self, and_true, true_and, SL, Tryz.results49]
    ·intro v124
     refine Mir.toK (Mir.seqK (Mir.seqK (Mir.joinO (fun v144 : Bool => [.d (.str v104), U, U, .d (.int .i64 v124), U, U, U, U, U, U, U, U, U, U, U, U, U, U, U, U, U, U, U, U, U, U, U, U, U, U, U, U, U, U, U, U, U, U, U, U, .d (.bool v144), U, U, U, U, U, U, U, U, U, U, U, U, U, U, U, U, U, U, U]) (fun v144 : Bool => ⟨[], []⟩) (fun _ => rfl) ?_ ?_)))
     ·refine Mir.ite (fun hb57 => ?_) (fun hb57 => ?_)
      ·refine Mir.region fun e h => ?_
       simp only [↓reduceIte, reduceCtorEq, nA, nS, nM, nE, nL, nT, nB, iT, iN, iE, and_self, SR, SV, hb57]
       cases h
       simp only [↓reduceIte, reduceCtorEq, nA, nE, nL, and_self, and_true, true_and, SL, hb57]
      ·refine Mir.ite (fun hb58 => ?_) (fun hb58 => ?_)
       ·refine Mir.bind fun c143 q59 => ?_
        replace q59 := gt_ok q59
        simp only [Int.reduceToNat, Int.reduceLT, Nat.sub_zero, dp0] at q59
        refine Mir.region fun e h => ?_
        simp only [↓reduceIte, reduceCtorEq, nA, nS, nM, nE, nL, nT, nB, iT, iN, iE, and_self, SR, SV, und_9, q59, hb57, hb58]
        cases h
        simp only [↓reduceIte, reduceCtorEq, nA, nE, nL, and_self, and_true, true_and, SL, hb57, hb58]
       ·refine Mir.region fun e h => ?_
        simp only [↓reduceIte, reduceCtorEq, nA, nS, nM, nE, nL, nT, nB, iT, iN, iE, and_self, SR, SV, hb57, hb58]
        cases h
        simp only [↓reduceIte, reduceCtorEq, nA, nE, nL, and_self, and_true, true_and, SL, hb57, hb58]
     ·intro v144
      refine Mir.toK (Mir.cond rfl (fun hb61 => ?_) (fun hb61 => ?_))
      ·refine Mir.seqK (Mir.region fun e h => ?_)
       simp only [↓reduceIte, reduceCtorEq, nA, nS, nM, nE, nL, nT, nB, iT, iN, iE, and_self, SR, SV]
       refine Mir.use (e := e) ?_ h
       refine Mir.ret fun e h => ?_
       cases h
       simp only [↓reduceIte, reduceCtorEq, nA, nE, nL, and_self, and_true, true_and, SL, Tryz.results49]
      ·refine Mir.skip (Mir.toK (Mir.seqK (Mir.joinO (fun v146 : Bool => [U, U, .d (.bool v146), U, U, U, U, U, U, U, U, U, U, U, U, U, U, U, U, U, U, U, U, U, U, U, U, U, U, U, U, U, U, U, U, U, U, U, U, U, U, U, U, U, U, U, U, U, U, U, U, U, U, U, U, U, U, U, U, U]) (fun v146 : Bool => ⟨[], []⟩) (fun _ => rfl) ?_ ?_)))
       ·refine Mir.ite (fun hb62 => ?_) (fun hb62 => ?_)
        ·refine Mir.region fun e h => ?_
         simp only [↓reduceIte, reduceCtorEq, nA, nS, nM, nE, nL, nT, nB, iT, iN, iE, and_self, SR, SV, und_9, hb62]
         cases h
         simp only [↓reduceIte, reduceCtorEq, nA, nE, nL, and_self, and_true, true_and, SL, hb62]
        ·refine Mir.ite (fun hb63 => ?_) (fun hb63 => ?_)
         ·refine Mir.bind fun c145 q64 => ?_
          replace q64 := gt_ok q64
          refine Mir.region fun e h => ?_
          simp only [↓reduceIte, reduceCtorEq, nA, nS, nM, nE, nL, nT, nB, iT, iN, iE, and_self, SR, SV, und_9, q64, hb62, hb63]
          cases h
          simp only [↓reduceIte, reduceCtorEq, nA, nE, nL, and_self, and_true, true_and, SL, hb62, hb63]
         ·refine Mir.region fun e h => ?_
          simp only [↓reduceIte, reduceCtorEq, nA, nS, nM, nE, nL, nT, nB, iT, iN, iE, and_self, SR, SV, und_9, hb62, hb63]
          cases h
          simp only [↓reduceIte, reduceCtorEq, nA, nE, nL, and_self, and_true, true_and, SL, hb62, hb63]
       ·intro v146
        refine Mir.toK (Mir.ret fun e h => ?_)
        cases h
        simp only [↓reduceIte, reduceCtorEq, nA, nE, nL, and_self, and_true, true_and, SL, Tryz.results49]

def r41_Value (a0 : (List UInt8)) : Option (Int × Int) :=
  bindX (guardO (okIdx a0) (
      rangeX (fun (i206 : Nat) (c208 : UInt8) (v207 : Int × Int × Int × Bool × Bool) =>
        bindX (if (((i206 : Int) == 0) && ((c208.toNat : Int) == 45)) = true then
              some (.go (v207.1, v207.2.1, v207.2.2.1, true, v207.2.2.2.2))
            else
              if (((c208.toNat : Int) == 46) && ((decide (v207.2.2.1 < 0)) && (decide ((i206 : Int) > 0)))) = true then
                some (.go (v207.1, v207.2.1, 0, v207.2.2.2.1, v207.2.2.2.2))
              else
                if ((decide ((c208.toNat : Int) ≥ 48)) && ((decide ((c208.toNat : Int) ≤ 57)) && (decide (v207.2.2.1 < 0)))) = true then
                  if (decide ((IntKind.u64.wrap ((IntKind.u64.wrap (10 * v207.1)) + (IntKind.u64.wrap (IntKind.u8.wrap ((c208.toNat : Int) - 48))))) > 1000000000000)) = true then
                    some (.go (1000000000000, v207.2.1, v207.2.2.1, v207.2.2.2.1, true))
                  else
                    some (.go (IntKind.u64.wrap ((IntKind.u64.wrap (10 * v207.1)) + (IntKind.u64.wrap (IntKind.u8.wrap ((c208.toNat : Int) - 48)))), v207.2.1, v207.2.2.1, v207.2.2.2.1, v207.2.2.2.2))
                else
                  if ((decide ((c208.toNat : Int) ≥ 48)) && ((decide ((c208.toNat : Int) ≤ 57)) && (decide (v207.2.2.1 < 3)))) = true then
                    some (.go (v207.1, IntKind.u64.wrap ((IntKind.u64.wrap (10 * v207.2.1)) + (IntKind.u64.wrap (IntKind.u8.wrap ((c208.toNat : Int) - 48)))), IntKind.i64.wrap (v207.2.2.1 + 1), v207.2.2.2.1, v207.2.2.2.2))
                  else
                    some (.ret (.ret (.ret (0, 2))))) fun (v209 : Int × Int × Int × Bool × Bool) =>
        some (.go (v209.1, v209.2.1, v209.2.2.1, v209.2.2.2.1, v209.2.2.2.2))) (fun (v207 : Int × Int × Int × Bool × Bool) => some (.go (v207.1, v207.2.1, v207.2.2.1, v207.2.2.2.1, v207.2.2.2.2))) a0 0 (0, 0, -1, false, false))) fun (v155 : Int × Int × Int × Bool × Bool) =>
  bindO (r41_canonical a0) fun (y210 : Bool) =>
  if (!y210) = true then
    some (0, 2)
  else
    bindO (loopX (fun (v223 : Int × Int) =>
          if ((decide (v223.2 ≥ 0)) && (decide (v223.2 < 3))) = true then
            some (.go (IntKind.u64.wrap (10 * v223.1), IntKind.i64.wrap (v223.2 + 1)))
          else
            some (.ret v223.1)) fuel (v155.2.1, v155.2.2.1)) fun (v217 : Int) =>
    if (v155.2.2.2.2 || (decide ((IntKind.u64.wrap ((IntKind.u64.wrap (1000 * v155.1)) + v217)) > 1000000000000))) = true then
      some (0, 11)
    else
      if v155.2.2.2.1 = true then
        some (IntKind.i64.wrap (0 - (IntKind.i64.wrap (IntKind.u64.wrap ((IntKind.u64.wrap (1000 * v155.1)) + v217)))), 0)
      else
        some (IntKind.i64.wrap (IntKind.u64.wrap ((IntKind.u64.wrap (1000 * v155.1)) + v217)), 0)
set_option maxHeartbeats 8000000 in
theorem r41_Value_spec {a0 : (List UInt8)} {y : Int × Int} (h : r41_Value a0 = some y) : Spec gP 35 [.d (.str a0)] (.tuple [.d (.int .i64 y.1), .d (.int .i64 y.2)]) := by
  refine spec_mir Tryz.func35 rfl (by kernel_rfl) (by kernel_rfl) (fun y : Int × Int => .tuple [.d (.int .i64 y.1), .d (.int .i64 y.2)]) ?_ h
  unfold r41_Value
  simp only [List.replicate, List.length, nS, nA, Tryz.ntmps35, SV]
  refine Mir.seqK (Mir.region fun e h => ?_)
  simp only [↓reduceIte, reduceCtorEq, nA, nS, nM, nE, nL, nT, nB, iT, iN, iE, and_self, SR, SV]
  refine Mir.use (e := e) ?_ h
  refine Mir.seqK (Mir.region fun e h => ?_)
  simp only [↓reduceIte, reduceCtorEq, nA, nS, nM, nE, nL, nT, nB, iT, iN, iE, and_self, SR, SV]
  refine Mir.use (e := e) ?_ h
  refine Mir.seqK (Mir.region fun e h => ?_)
  simp only [↓reduceIte, reduceCtorEq, nA, nS, nM, nE, nL, nT, nB, iT, iN, iE, and_self, SR, SV]
  refine Mir.use (e := e) ?_ h
  refine Mir.seqK (Mir.seqK (Mir.region fun e h => ?_))
  simp only [↓reduceIte, reduceCtorEq, nA, nS, nM, nE, nL, nT, nB, iT, iN, iE, and_self, SR, SV]
  refine Mir.use (e := e) ?_ h
  refine Mir.join (fun v155 : Int × Int × Int × Bool × Bool => [.d (.str a0), U, U, U, .d (.int .u64 v155.1), .d (.int .u64 v155.2.1), .d (.int .i64 v155.2.2.1), .d (.bool v155.2.2.2.1), .d (.bool v155.2.2.2.2), U, U, U, U, U, U, U, U, U, U, U, U, U, U, U, U, U, U, U, U, U, U, U, U, U, U, U, U, U, U, U, U, U, U, U, U, U, U, U, U, U, U, U, U, U, U, U, U, U, U, U, U, U, U, U, U, U, U, U, U, U, U, U, U, U, U, U, U, U, U, U, U, U, U, U, U, U, U, U, U, U, U, U, U, U, U, U, U, U, U, U, U, U, U, U, U, U, U, U, U, U, U, U, U, U, U, U, U]) (fun v155 : Int × Int × Int × Bool × Bool => ⟨[], []⟩) (fun _ => rfl) ?_ ?_
  ·refine Mir.block (Mir.guard fun qg226 => Mir.range (fun (i206 : Nat) (v207 : Int × Int × Int × Bool × Bool) => [.d (.str a0), U, U, U, .d (.int .u64 v207.1), .d (.int .u64 v207.2.1), .d (.int .i64 v207.2.2.1), .d (.bool v207.2.2.2.1), .d (.bool v207.2.2.2.2), .d (.int .i64 (i206 : Int)), U, U, U, U, U, U, U, U, U, U, U, U, U, U, U, U, U, U, U, U, U, U, U, U, U, U, U, U, U, U, U, U, U, U, U, U, U, U, U, U, U, U, U, U, U, U, U, U, U, U, U, U, U, U, U, U, U, U, U, U, U, U, U, U, U, U, U, U, U, U, U, U, U, U, U, U, U, U, U, U, U, U, U, U, U, U, U, U, U, U, U, U, U, U, U, U, U, U, U, U, U, U, U, U, U, U, U]) (fun (i206 : Nat) (v207 : Int × Int × Int × Bool × Bool) => ⟨[], []⟩) qg226 (fun _ _ => rfl) (by simp only [↓reduceIte, reduceCtorEq, nA, nE, nL, and_self, and_true, true_and, SL, (nr rfl : ((0 : Nat) : Int) = 0)]) (by simp only [↓reduceIte, reduceCtorEq, nA, nE, nL, and_self, and_true, true_and, SL, (nr rfl : ((0 : Nat) : Int) = 0)]) ?_ ?_)
   ·intro i206 c208 v207 qr224
    refine Mir.seqK (Mir.seqK (Mir.region fun e h => ?_))
    simp only [↓reduceIte, reduceCtorEq, nA, nS, nM, nE, nL, nT, nB, iT, iN, iE, and_self, SR, SV, und_9, qr224]
    refine Mir.use (e := e) ?_ h
    refine Mir.condT rfl (Mir.skip (Mir.toK (Mir.seqK (Mir.join (fun v209 : Int × Int × Int × Bool × Bool => [.d (.str a0), U, U, U, .d (.int .u64 v209.1), .d (.int .u64 v209.2.1), .d (.int .i64 v209.2.2.1), .d (.bool v209.2.2.2.1), .d (.bool v209.2.2.2.2), .d (.int .i64 (i206 : Int)), U, U, U, U, U, U, U, U, U, U, U, U, U, U, U, U, U, U, U, U, U, U, U, U, U, U, U, U, U, U, U, U, U, U, U, U, U, U, U, U, U, U, U, U, U, U, U, U, U, U, U, U, U, U, U, U, U, U, U, U, U, U, U, U, U, U, U, U, U, U, U, U, U, U, U, U, U, U, U, U, U, U, U, U, U, U, U, U, U, U, U, U, U, U, U, U, U, U, U, U, U, U, U, U, U, U, U]) (fun v209 : Int × Int × Int × Bool × Bool => ⟨[], []⟩) (fun _ => rfl) ?_ ?_))))
    ·refine Mir.block (Mir.block (Mir.seqK (Mir.joinV [.d (.str a0), U, U, U, .d (.int .u64 v207.1), .d (.int .u64 v207.2.1), .d (.int .i64 v207.2.2.1), .d (.bool v207.2.2.2.1), .d (.bool v207.2.2.2.2), .d (.int .i64 (i206 : Int)), U, U, U, U, U, U, U, .d (.bool (((i206 : Int) == 0) && ((c208.toNat : Int) == 45))), U, U, U, U, U, U, U, U, U, U, U, U, U, U, U, U, U, U, U, U, U, U, U, U, U, U, U, U, U, U, U, U, U, U, U, U, U, U, U, U, U, U, U, U, U, U, U, U, U, U, U, U, U, U, U, U, U, U, U, U, U, U, U, U, U, U, U, U, U, U, U, U, U, U, U, U, U, U, U, U, U, U, U, U, U, U, U, U, U, U, U, U, U, U, U, U, U, U, U] ⟨[], []⟩ rfl ?_ ?_)))
     ·refine SWs.region ?_
      rcases Bool.eq_false_or_eq_true ((i206 : Int) == 0) with hb239 | hb239
      ·simp only [↓reduceIte, reduceCtorEq, nA, nS, nM, nE, nL, nT, nB, iT, iN, iE, and_self, SR, SV, SL, PB, und_9, Int.toNat_natCast, qr224, hb239]
      ·simp only [↓reduceIte, reduceCtorEq, nA, nS, nM, nE, nL, nT, nB, iT, iN, iE, and_self, SR, SV, SL, PB, hb239]
     ·refine Mir.toK (Mir.cond rfl (fun hb240 => ?_) (fun hb240 => ?_))
      ·refine Mir.region fun e h => ?_
       simp only [↓reduceIte, reduceCtorEq, nA, nS, nM, nE, nL, nT, nB, iT, iN, iE, and_self, SR, SV]
       cases h
       simp only [↓reduceIte, reduceCtorEq, nA, nE, nL, and_self, and_true, true_and, SL, Tryz.results35]
      ·refine Mir.seqK (Mir.joinV [.d (.str a0), U, U, U, .d (.int .u64 v207.1), .d (.int .u64 v207.2.1), .d (.int .i64 v207.2.2.1), .d (.bool v207.2.2.2.1), .d (.bool v207.2.2.2.2), .d (.int .i64 (i206 : Int)), U, U, U, U, U, U, U, U, U, U, U, U, U, U, U, U, .d (.bool (((c208.toNat : Int) == 46) && ((decide (v207.2.2.1 < 0)) && (decide ((i206 : Int) > 0))))), U, U, U, U, U, U, U, U, U, U, U, U, U, U, U, U, U, U, U, U, U, U, U, U, U, U, U, U, U, U, U, U, U, U, U, U, U, U, U, U, U, U, U, U, U, U, U, U, U, U, U, U, U, U, U, U, U, U, U, U, U, U, U, U, U, U, U, U, U, U, U, U, U, U, U, U, U, U, U, U, U, U, U, U, U, U, U, U, U, U] ⟨[], []⟩ rfl ?_ ?_)
       ·refine SWs.region ?_
        rcases Bool.eq_false_or_eq_true ((c208.toNat : Int) == 46) with hb241 | hb241
        ·rcases Bool.eq_false_or_eq_true (decide (v207.2.2.1 < 0)) with hb242 | hb242
         ·simp only [↓reduceIte, reduceCtorEq, nA, nS, nM, nE, nL, nT, nB, iT, iN, iE, and_self, SR, SV, SL, PB, und_9, Int.toNat_natCast, qr224, hb241, hb242]
         ·simp only [↓reduceIte, reduceCtorEq, nA, nS, nM, nE, nL, nT, nB, iT, iN, iE, and_self, SR, SV, SL, PB, und_9, Int.toNat_natCast, qr224, hb241, hb242]
        ·simp only [↓reduceIte, reduceCtorEq, nA, nS, nM, nE, nL, nT, nB, iT, iN, iE, and_self, SR, SV, SL, PB, und_9, Int.toNat_natCast, qr224, hb241]
       ·refine Mir.toK (Mir.cond rfl (fun hb243 => ?_) (fun hb243 => ?_))
        ·refine Mir.region fun e h => ?_
         simp only [↓reduceIte, reduceCtorEq, nA, nS, nM, nE, nL, nT, nB, iT, iN, iE, and_self, SR, SV]
         cases h
         simp only [↓reduceIte, reduceCtorEq, nA, nE, nL, and_self, and_true, true_and, SL, Tryz.results35]
        ·refine Mir.seqK (Mir.joinV [.d (.str a0), U, U, U, .d (.int .u64 v207.1), .d (.int .u64 v207.2.1), .d (.int .i64 v207.2.2.1), .d (.bool v207.2.2.2.1), .d (.bool v207.2.2.2.2), .d (.int .i64 (i206 : Int)), U, U, U, U, U, U, U, U, U, U, U, U, U, U, U, U, U, U, U, U, U, U, U, U, U, U, U, U, U, .d (.bool ((decide ((c208.toNat : Int) ≥ 48)) && ((decide ((c208.toNat : Int) ≤ 57)) && (decide (v207.2.2.1 < 0))))), U, U, U, U, U, U, U, U, U, U, U, U, U, U, U, U, U, U, U, U, U, U, U, U, U, U, U, U, U, U, U, U, U, U, U, U, U, U, U, U, U, U, U, U, U, U, U, U, U, U, U, U, U, U, U, U, U, U, U, U, U, U, U, U, U, U, U, U, U, U, U, U, U, U, U, U, U] ⟨[], []⟩ rfl ?_ ?_)
         ·refine SWs.region ?_
          rcases Bool.eq_false_or_eq_true (decide ((c208.toNat : Int) ≥ 48)) with hb244 | hb244
          ·rcases Bool.eq_false_or_eq_true (decide ((c208.toNat : Int) ≤ 57)) with hb245 | hb245
           ·simp only [↓reduceIte, reduceCtorEq, nA, nS, nM, nE, nL, nT, nB, iT, iN, iE, and_self, SR, SV, SL, PB, und_9, Int.toNat_natCast, qr224, hb244, hb245]
           ·simp only [↓reduceIte, reduceCtorEq, nA, nS, nM, nE, nL, nT, nB, iT, iN, iE, and_self, SR, SV, SL, PB, und_9, Int.toNat_natCast, qr224, hb244, hb245]
          ·simp only [↓reduceIte, reduceCtorEq, nA, nS, nM, nE, nL, nT, nB, iT, iN, iE, and_self, SR, SV, SL, PB, und_9, Int.toNat_natCast, qr224, hb244]
         ·refine Mir.toK (Mir.cond rfl (fun hb246 => ?_) (fun hb246 => ?_))
          ·refine Mir.seqK (Mir.region fun e h => ?_)
           simp only [↓reduceIte, reduceCtorEq, nA, nS, nM, nE, nL, nT, nB, iT, iN, iE, and_self, SR, SV, und_9, Int.toNat_natCast, qr224, und_5, und_73]
           refine Mir.use (e := e) ?_ h
           refine Mir.seqK (Mir.region fun e h => ?_)
           simp only [↓reduceIte, reduceCtorEq, nA, nS, nM, nE, nL, nT, nB, iT, iN, iE, and_self, SR, SV]
           refine Mir.use (e := e) ?_ h
           refine Mir.cond rfl (fun hb247 => ?_) (fun hb247 => ?_)
           ·refine Mir.region fun e h => ?_
            simp only [↓reduceIte, reduceCtorEq, nA, nS, nM, nE, nL, nT, nB, iT, iN, iE, and_self, SR, SV]
            cases h
            simp only [↓reduceIte, reduceCtorEq, nA, nE, nL, and_self, and_true, true_and, SL, Tryz.results35]
           ·refine Mir.skip fun e h => ?_
            cases h
            simp only [↓reduceIte, reduceCtorEq, nA, nE, nL, and_self, and_true, true_and, SL, Tryz.results35]
          ·refine Mir.seqK (Mir.joinV [.d (.str a0), U, U, U, .d (.int .u64 v207.1), .d (.int .u64 v207.2.1), .d (.int .i64 v207.2.2.1), .d (.bool v207.2.2.2.1), .d (.bool v207.2.2.2.2), .d (.int .i64 (i206 : Int)), U, U, U, U, U, U, U, U, U, U, U, U, U, U, U, U, U, U, U, U, U, U, U, U, U, U, U, U, U, U, U, U, U, U, U, U, U, U, U, U, U, U, U, U, U, U, U, U, U, U, U, U, U, U, .d (.bool ((decide ((c208.toNat : Int) ≥ 48)) && ((decide ((c208.toNat : Int) ≤ 57)) && (decide (v207.2.2.1 < 3))))), U, U, U, U, U, U, U, U, U, U, U, U, U, U, U, U, U, U, U, U, U, U, U, U, U, U, U, U, U, U, U, U, U, U, U, U, U, U, U, U, U, U, U, U, U, U, U, U, U, U, U, U] ⟨[], []⟩ rfl ?_ ?_)
           ·refine SWs.region ?_
            rcases Bool.eq_false_or_eq_true (decide ((c208.toNat : Int) ≥ 48)) with hb248 | hb248
            ·rcases Bool.eq_false_or_eq_true (decide ((c208.toNat : Int) ≤ 57)) with hb249 | hb249
             ·simp only [↓reduceIte, reduceCtorEq, nA, nS, nM, nE, nL, nT, nB, iT, iN, iE, and_self, SR, SV, SL, PB, und_9, Int.toNat_natCast, qr224, hb248, hb249]
             ·simp only [↓reduceIte, reduceCtorEq, nA, nS, nM, nE, nL, nT, nB, iT, iN, iE, and_self, SR, SV, SL, PB, und_9, Int.toNat_natCast, qr224, hb248, hb249]
            ·simp only [↓reduceIte, reduceCtorEq, nA, nS, nM, nE, nL, nT, nB, iT, iN, iE, and_self, SR, SV, SL, PB, und_9, Int.toNat_natCast, qr224, hb248]
           ·refine Mir.toK (Mir.cond rfl (fun hb250 => ?_) (fun hb250 => ?_))
            ·refine Mir.region fun e h => ?_
             simp only [↓reduceIte, reduceCtorEq, nA, nS, nM, nE, nL, nT, nB, iT, iN, iE, and_self, SR, SV, und_9, Int.toNat_natCast, qr224, und_5, und_73]
             cases h
             simp only [↓reduceIte, reduceCtorEq, nA, nE, nL, and_self, and_true, true_and, SL, Tryz.results35]
            ·refine Mir.seqK (Mir.region fun e h => ?_)
             simp only [↓reduceIte, reduceCtorEq, nA, nS, nM, nE, nL, nT, nB, iT, iN, iE, and_self, SR, SV]
             refine Mir.use (e := e) ?_ h
             refine Mir.ret fun e h => ?_
             cases h
             simp only [↓reduceIte, reduceCtorEq, nA, nE, nL, and_self, and_true, true_and, SL, Tryz.results35]
    ·intro v209
     refine Mir.toK (Mir.region fun e h => ?_)
     simp only [↓reduceIte, reduceCtorEq, nA, nS, nM, nE, nL, nT, nB, iT, iN, iE, and_self, SR, SV]
     cases h
     simp only [↓reduceIte, reduceCtorEq, nA, nE, nL, and_self, and_true, true_and, SL, Tryz.results35, qr224]
   ·intro v207 qd225
    refine Mir.seqK (Mir.seqK (Mir.region fun e h => ?_))
    simp only [↓reduceIte, reduceCtorEq, nA, nS, nM, nE, nL, nT, nB, iT, iN, iE, and_self, SR, SV, und_9, qd225]
    refine Mir.use (e := e) ?_ h
    refine Mir.condF rfl (Mir.exit fun e h => ?_)
    cases h
    simp only [↓reduceIte, reduceCtorEq, nA, nE, nL, and_self, and_true, true_and, SL, Tryz.results35]
  ·intro v155
   refine Mir.toK (Mir.seqK (Mir.seqK (Mir.bind fun y210 hy251 => Mir.region fun e h => ?_)))
   simp only [↓reduceIte, reduceCtorEq, nA, nS, nM, nE, nL, nT, nB, iT, iN, iE, and_self, SR, SV]
   refine SpecS.by (r41_canonical_spec hy251) (by simp only [↓reduceIte, reduceCtorEq, nA, nE, nL, and_self, and_true, true_and, SL]) ?_
   simp only [↓reduceIte, reduceCtorEq, nA, nS, nM, nE, nL, nT, nB, iT, iN, iE, and_self, SR, SV]
   refine Mir.use (e := e) ?_ h
   refine Mir.cond rfl (fun hb253 => ?_) (fun hb253 => ?_)
   ·refine Mir.seqK (Mir.region fun e h => ?_)
    simp only [↓reduceIte, reduceCtorEq, nA, nS, nM, nE, nL, nT, nB, iT, iN, iE, and_self, SR, SV]
    refine Mir.use (e := e) ?_ h
    refine Mir.ret fun e h => ?_
    cases h
    simp only [↓reduceIte, reduceCtorEq, nA, nE, nL, and_self, and_true, true_and, SL, Tryz.results35]
   ·refine Mir.skip (Mir.toK (Mir.seqK (Mir.joinO (fun v217 : Int => [U, U, U, U, .d (.int .u64 v155.1), .d (.int .u64 v217), U, .d (.bool v155.2.2.2.1), .d (.bool v155.2.2.2.2), U, U, U, U, U, U, U, U, U, U, U, U, U, U, U, U, U, U, U, U, U, U, U, U, U, U, U, U, U, U, U, U, U, U, U, U, U, U, U, U, U, U, U, U, U, U, U, U, U, U, U, U, U, U, U, U, U, U, U, U, U, U, U, U, U, U, U, U, U, U, U, U, U, U, U, U, U, U, U, U, U, U, U, U, U, U, U, U, U, U, U, U, U, U, U, U, U, U, U, U, U, U, U, U, U, U, U, U]) (fun v217 : Int => ⟨[], []⟩) (fun _ => rfl) ?_ ?_)))
    ·refine Mir.block (Mir.loop (fun v223 : Int × Int => [U, U, U, U, .d (.int .u64 v155.1), .d (.int .u64 v223.1), .d (.int .i64 v223.2), .d (.bool v155.2.2.2.1), .d (.bool v155.2.2.2.2), U, U, U, U, U, U, U, U, U, U, U, U, U, U, U, U, U, U, U, U, U, U, U, U, U, U, U, U, U, U, U, U, U, U, U, U, U, U, U, U, U, U, U, U, U, U, U, U, U, U, U, U, U, U, U, U, U, U, U, U, U, U, U, U, U, U, U, U, U, U, U, U, U, U, U, U, U, U, U, U, U, U, U, U, U, U, U, U, U, U, U, U, U, U, U, U, U, U, U, U, U, U, U, U, U, U, U, U]) (fun v223 : Int × Int => ⟨[], []⟩) (fun _ => rfl) (by simp only [↓reduceIte, reduceCtorEq, nA, nE, nL, and_self, and_true, true_and, SL]) (by simp only [↓reduceIte, reduceCtorEq, nA, nE, nL, and_self, and_true, true_and, SL]) fun v223 => Mir.seqK (Mir.seqK (Mir.joinV [U, U, U, U, .d (.int .u64 v155.1), .d (.int .u64 v223.1), .d (.int .i64 v223.2), .d (.bool v155.2.2.2.1), .d (.bool v155.2.2.2.2), U, U, U, U, U, U, U, U, U, U, U, U, U, U, U, U, U, U, U, U, U, U, U, U, U, U, U, U, U, U, U, U, U, U, U, U, U, U, U, U, U, U, U, U, U, U, U, U, U, U, U, U, U, U, U, U, U, U, U, U, U, U, U, U, U, U, U, U, U, U, U, U, U, U, U, U, U, U, U, U, U, U, U, U, U, U, U, U, .d (.bool ((decide (v223.2 ≥ 0)) && (decide (v223.2 < 3)))), U, U, U, U, U, U, U, U, U, U, U, U, U, U, U, U, U, U, U] ⟨[], []⟩ rfl ?_ ?_)))
     ·refine SWs.region ?_
      rcases Bool.eq_false_or_eq_true (decide (v223.2 ≥ 0)) with hb273 | hb273
      ·simp only [↓reduceIte, reduceCtorEq, nA, nS, nM, nE, nL, nT, nB, iT, iN, iE, and_self, SR, SV, SL, PB, hb273]
      ·simp only [↓reduceIte, reduceCtorEq, nA, nS, nM, nE, nL, nT, nB, iT, iN, iE, and_self, SR, SV, SL, PB, hb273]
     ·refine Mir.toK (Mir.cond rfl (fun hb275 => ?_) (fun hb275 => ?_))
      ·refine Mir.skip (Mir.toK (Mir.block (Mir.region fun e h => ?_)))
       simp only [↓reduceIte, reduceCtorEq, nA, nS, nM, nE, nL, nT, nB, iT, iN, iE, and_self, SR, SV]
       cases h
       simp only [↓reduceIte, reduceCtorEq, nA, nE, nL, and_self, and_true, true_and, SL, Tryz.results35]
      ·refine Mir.exit fun e h => ?_
       cases h
       simp only [↓reduceIte, reduceCtorEq, nA, nE, nL, and_self, and_true, true_and, SL, Tryz.results35]
    ·intro v217
     refine Mir.toK (Mir.seqK (Mir.region fun e h => ?_))
     simp only [↓reduceIte, reduceCtorEq, nA, nS, nM, nE, nL, nT, nB, iT, iN, iE, and_self, SR, SV]
     refine Mir.use (e := e) ?_ h
     refine Mir.seqK (Mir.seqK (Mir.joinV [U, U, U, U, U, U, U, .d (.bool v155.2.2.2.1), U, U, .d (.int .u64 (IntKind.u64.wrap ((IntKind.u64.wrap (1000 * v155.1)) + v217))), U, U, U, U, U, U, U, U, U, U, U, U, U, U, U, U, U, U, U, U, U, U, U, U, U, U, U, U, U, U, U, U, U, U, U, U, U, U, U, U, U, U, U, U, U, U, U, U, U, U, U, U, U, U, U, U, U, U, U, U, U, U, U, U, U, U, U, U, U, U, U, U, U, U, U, U, U, U, U, U, U, U, U, U, U, U, U, U, U, U, U, U, U, U, U, U, U, U, U, .d (.bool (v155.2.2.2.2 || (decide ((IntKind.u64.wrap ((IntKind.u64.wrap (1000 * v155.1)) + v217)) > 1000000000000)))), U, U, U, U, U, U] ⟨[], []⟩ rfl ?_ ?_))
     ·refine SWs.region ?_
      rcases Bool.eq_false_or_eq_true (v155.2.2.2.2) with hb276 | hb276
      ·simp only [↓reduceIte, reduceCtorEq, nA, nS, nM, nE, nL, nT, nB, iT, iN, iE, and_self, SR, SV, SL, PB, hb276]
      ·simp only [↓reduceIte, reduceCtorEq, nA, nS, nM, nE, nL, nT, nB, iT, iN, iE, and_self, SR, SV, SL, PB, hb276]
     ·refine Mir.toK (Mir.cond rfl (fun hb278 => ?_) (fun hb278 => ?_))
      ·refine Mir.seqK (Mir.region fun e h => ?_)
       simp only [↓reduceIte, reduceCtorEq, nA, nS, nM, nE, nL, nT, nB, iT, iN, iE, and_self, SR, SV]
       refine Mir.use (e := e) ?_ h
       refine Mir.ret fun e h => ?_
       cases h
       simp only [↓reduceIte, reduceCtorEq, nA, nE, nL, and_self, and_true, true_and, SL, Tryz.results35]
      ·refine Mir.skip (Mir.toK (Mir.seqK (Mir.seqK (Mir.region fun e h => ?_))))
       simp only [↓reduceIte, reduceCtorEq, nA, nS, nM, nE, nL, nT, nB, iT, iN, iE, and_self, SR, SV]
       refine Mir.use (e := e) ?_ h
       refine Mir.cond rfl (fun hb280 => ?_) (fun hb280 => ?_)
       ·refine Mir.seqK (Mir.region fun e h => ?_)
        simp only [↓reduceIte, reduceCtorEq, nA, nS, nM, nE, nL, nT, nB, iT, iN, iE, and_self, SR, SV, und_73, und_2]
        refine Mir.use (e := e) ?_ h
        refine Mir.ret fun e h => ?_
        cases h
        simp only [↓reduceIte, reduceCtorEq, nA, nE, nL, and_self, and_true, true_and, SL, Tryz.results35]
       ·refine Mir.skip (Mir.toK (Mir.seqK (Mir.region fun e h => ?_)))
        simp only [↓reduceIte, reduceCtorEq, nA, nS, nM, nE, nL, nT, nB, iT, iN, iE, and_self, SR, SV, und_73, und_2]
        refine Mir.use (e := e) ?_ h
        refine Mir.ret fun e h => ?_
        cases h
        simp only [↓reduceIte, reduceCtorEq, nA, nE, nL, and_self, and_true, true_and, SL, Tryz.results35]

def r41_printable (a0 : Int) : Option Bool :=
  some ((decide (a0 ≥ 32)) && ((decide (a0 ≤ 126)) && ((a0 != 40) && (a0 != 41))))
theorem r41_printable_spec {a0 : Int} {y : Bool} (h : r41_printable a0 = some y) : Spec gP 48 [.d (.int .u8 a0)] (.d (.bool y)) := by
  refine spec_mir Tryz.func48 rfl (by kernel_rfl) (by kernel_rfl) (fun y : Bool => .d (.bool y)) ?_ h
  unfold r41_printable
  simp only [List.replicate, List.length, nS, nA, Tryz.ntmps48, SV]
  refine Mir.seqK (Mir.region fun e h => ?_)
  simp only [↓reduceIte, reduceCtorEq, nA, nS, nM, nE, nL, nT, nB, iT, iN, iE, and_self, SR, SV]
  refine Mir.use (e := e) ?_ h
  refine Mir.seqK (Mir.joinV [U, U, .d (.bool ((decide (a0 ≥ 32)) && ((decide (a0 ≤ 126)) && ((a0 != 40) && (a0 != 41))))), U, U, U, U, U, U, U, U, U, U, U, U, U, U] ⟨[], []⟩ rfl ?_ ?_)
  ·refine SWs.region ?_
   rcases Bool.eq_false_or_eq_true (decide (a0 ≥ 32)) with hb1 | hb1
   ·rcases Bool.eq_false_or_eq_true (decide (a0 ≤ 126)) with hb2 | hb2
    ·rcases Bool.eq_false_or_eq_true (a0 != 40) with hb3 | hb3
     ·simp only [↓reduceIte, reduceCtorEq, nA, nS, nM, nE, nL, nT, nB, iT, iN, iE, and_self, SR, SV, SL, PB, hb1, hb2, hb3]
     ·simp only [↓reduceIte, reduceCtorEq, nA, nS, nM, nE, nL, nT, nB, iT, iN, iE, and_self, SR, SV, SL, PB, hb1, hb2, hb3]
    ·simp only [↓reduceIte, reduceCtorEq, nA, nS, nM, nE, nL, nT, nB, iT, iN, iE, and_self, SR, SV, SL, PB, hb1, hb2]
   ·simp only [↓reduceIte, reduceCtorEq, nA, nS, nM, nE, nL, nT, nB, iT, iN, iE, and_self, SR, SV, SL, PB, hb1]
  ·refine Mir.toK (Mir.ret fun e h => ?_)
   cases h
   simp only [↓reduceIte, reduceCtorEq, nA, nE, nL, and_self, and_true, true_and, SL, Tryz.results48]

def r41_Valid (a0 : ApiBlock) : Option Int :=
  if ((decide ((a0.Words.length : Int) > 16)) || (decide ((a0.Comment.length : Int) > 100))) = true then
    some 1
  else
    bindX (guardO (okIdx a0.Words) (
        rangeX (fun (i127 : Nat) (e129 : ApiWord) (v128 : Unit) =>
          if ((decide (e129.Letter < 65)) || ((decide (e129.Letter > 90)) || ((decide (e129.Value > 1000000000000)) || (decide (e129.Value < (-1000000000000)))))) = true then
            some (.ret (.ret 1))
          else
            some (.go ())) (fun (v128 : Unit) => some (.go ())) a0.Words 0 ())) fun (v115 : Unit) =>
    bindX (guardO (okIdx a0.Comment) (
        rangeX (fun (i170 : Nat) (c172 : UInt8) (v171 : Unit) =>
          bindO (r41_printable (c172.toNat : Int)) fun (y174 : Bool) =>
          if (!y174) = true then
            some (.ret (.ret 1))
          else
            some (.go ())) (fun (v171 : Unit) => some (.go ())) a0.Comment 0 ())) fun (v152 : Unit) =>
    some 0
theorem r41_Valid_spec {a0 : ApiBlock} {y : Int} (h : r41_Valid a0 = some y) : Spec gP 37 [.agg [.d (.bool a0.Skip), .d (.list (List.map encApiWord a0.Words)), .d (.str a0.Comment)]] (.d (.int .i64 y)) := by
  refine spec_mir Tryz.func37 rfl (by kernel_rfl) (by kernel_rfl) (fun y : Int => .d (.int .i64 y)) ?_ h
  unfold r41_Valid
  simp only [List.replicate, List.length, nS, nA, Tryz.ntmps37, SV]
  refine Mir.seqK (Mir.region fun e h => ?_)
  simp only [↓reduceIte, reduceCtorEq, nA, nS, nM, nE, nL, nT, nB, iT, iN, iE, and_self, SR, SV, ENMB]
  refine Mir.use (e := e) ?_ h
  refine Mir.seqK (Mir.seqK (Mir.joinV [U, .ptr 0 0, U, U, U, U, U, U, U, U, U, U, U, U, U, .d (.bool ((decide ((a0.Words.length : Int) > 16)) || (decide ((a0.Comment.length : Int) > 100)))), U, U, U, U, U, U, U, U, U, U, U, U, U, U, U, U, U, U, U, U, U, U, U, U, U, U, U, U, U, U, U, U, U, U, U, U, U, U, U, U, U, U, U] ⟨[[.d (.bool a0.Skip), .d (.list (List.map encApiWord a0.Words)), .d (.str a0.Comment)]], []⟩ rfl ?_ ?_))
  ·refine SWs.region ?_
   rcases Bool.eq_false_or_eq_true (decide ((a0.Words.length : Int) > 16)) with hb1 | hb1
   ·simp only [↓reduceIte, reduceCtorEq, nA, nS, nM, nE, nL, nT, nB, iT, iN, iE, and_self, SR, SV, SL, PB, fld_36_1, sz_34, ag_34, und_34, hb1, ENMB]
   ·simp only [↓reduceIte, reduceCtorEq, nA, nS, nM, nE, nL, nT, nB, iT, iN, iE, and_self, SR, SV, SL, PB, fld_36_1, sz_34, ag_34, und_34, fld_36_2, sz_9, ag_9, und_9, hb1, ENMB]
  ·refine Mir.toK (Mir.cond rfl (fun hb3 => ?_) (fun hb3 => ?_))
   ·refine Mir.seqK (Mir.region fun e h => ?_)
    simp only [↓reduceIte, reduceCtorEq, nA, nS, nM, nE, nL, nT, nB, iT, iN, iE, and_self, SR, SV, ENMB]
    refine Mir.use (e := e) ?_ h
    refine Mir.ret fun e h => ?_
    cases h
    simp only [↓reduceIte, reduceCtorEq, nA, nE, nL, and_self, and_true, true_and, SL, ENMB, Tryz.results37]
   ·refine Mir.skip (Mir.toK (Mir.seqK (Mir.seqK (Mir.region fun e h => ?_))))
    simp only [↓reduceIte, reduceCtorEq, nA, nS, nM, nE, nL, nT, nB, iT, iN, iE, and_self, SR, SV, ENMB]
    refine Mir.use (e := e) ?_ h
    refine Mir.join (fun v115 : Unit => [U, .ptr 0 0, U, U, U, U, U, U, U, U, U, U, U, U, U, U, U, U, U, U, U, U, U, U, U, U, U, U, U, U, U, U, U, U, U, U, U, U, U, U, U, U, U, U, U, U, U, U, U, U, U, U, U, U, U, U, U, U, U]) (fun v115 : Unit => ⟨[[.d (.bool a0.Skip), .d (.list (List.map encApiWord a0.Words)), .d (.str a0.Comment)]], []⟩) (fun _ => rfl) ?_ ?_
    ·refine Mir.block (Mir.guard fun qg96 => Mir.range (fun (i127 : Nat) (v128 : Unit) => [U, .ptr 0 0, U, .d (.int .i64 (i127 : Int)), U, U, U, U, U, U, U, U, U, U, U, U, U, U, U, U, U, U, U, U, U, U, U, U, U, U, U, U, U, U, U, U, U, U, U, U, U, U, U, U, U, U, U, U, U, U, U, U, U, U, U, U, U, U, U]) (fun (i127 : Nat) (v128 : Unit) => ⟨[[.d (.bool a0.Skip), .d (.list (List.map encApiWord a0.Words)), .d (.str a0.Comment)]], []⟩) qg96 (fun _ _ => rfl) (by simp only [↓reduceIte, reduceCtorEq, nA, nE, nL, and_self, and_true, true_and, SL, ENMB, (nr rfl : ((0 : Nat) : Int) = 0)]) (by simp only [↓reduceIte, reduceCtorEq, nA, nE, nL, and_self, and_true, true_and, SL, ENMB, (nr rfl : ((0 : Nat) : Int) = 0)]) ?_ ?_)
     ·intro i127 e129 v128 qr94
      refine Mir.seqK (Mir.seqK (Mir.region fun e h => ?_))
      simp only [↓reduceIte, reduceCtorEq, nA, nS, nM, nE, nL, nT, nB, iT, iN, iE, and_self, SR, SV, fld_36_1, sz_34, ag_34, und_34, qr94, ENMB]
      refine Mir.use (e := e) ?_ h
      refine Mir.condT rfl (Mir.skip (Mir.toK (Mir.seqK (Mir.block (Mir.seqK (Mir.region fun e h => ?_))))))
      simp only [↓reduceIte, reduceCtorEq, nA, nS, nM, nE, nL, nT, nB, iT, iN, iE, and_self, SR, SV, fld_36_1, sz_34, ag_34, und_34, sz_58, qr94, Int.toNat_natCast, ag_58, zero_58, ENMB]
      refine Mir.use (e := e) ?_ h
      refine Mir.seqK (Mir.joinV [U, .ptr 0 0, U, .d (.int .i64 (i127 : Int)), U, U, U, U, U, U, U, U, U, U, U, U, U, U, U, U, U, U, U, U, U, U, U, U, U, U, U, U, U, U, U, U, U, U, U, U, U, U, U, U, U, .d (.bool ((decide (e129.Letter < 65)) || ((decide (e129.Letter > 90)) || ((decide (e129.Value > 1000000000000)) || (decide (e129.Value < (-1000000000000))))))), U, U, U, U, U, U, U, U, U, U, U, U, U] ⟨[[.d (.bool a0.Skip), .d (.list (List.map encApiWord a0.Words)), .d (.str a0.Comment)], [.d (.int .u8 e129.Letter), .d (.int .i64 e129.Value)]], []⟩ rfl ?_ ?_)
      ·refine SWs.region ?_
       rcases Bool.eq_false_or_eq_true (decide (e129.Letter < 65)) with hb101 | hb101
       ·simp only [↓reduceIte, reduceCtorEq, nA, nS, nM, nE, nL, nT, nB, iT, iN, iE, and_self, SR, SV, SL, PB, fld_58_0, sz_5, ag_5, hb101, ENMB]
       ·rcases Bool.eq_false_or_eq_true (decide (e129.Letter > 90)) with hb102 | hb102
        ·simp only [↓reduceIte, reduceCtorEq, nA, nS, nM, nE, nL, nT, nB, iT, iN, iE, and_self, SR, SV, SL, PB, fld_58_0, sz_5, ag_5, hb101, hb102, ENMB]
        ·rcases Bool.eq_false_or_eq_true (decide (e129.Value > 1000000000000)) with hb103 | hb103
         ·simp only [↓reduceIte, reduceCtorEq, nA, nS, nM, nE, nL, nT, nB, iT, iN, iE, and_self, SR, SV, SL, PB, fld_58_0, sz_5, ag_5, fld_58_1, sz_2, ag_2, hb101, hb102, hb103, ENMB]
         ·simp only [↓reduceIte, reduceCtorEq, nA, nS, nM, nE, nL, nT, nB, iT, iN, iE, and_self, SR, SV, SL, PB, fld_58_0, sz_5, ag_5, fld_58_1, sz_2, ag_2, hb101, hb102, hb103, ENMB]
      ·refine Mir.toK (Mir.cond rfl (fun hb105 => ?_) (fun hb105 => ?_))
       ·refine Mir.seqK (Mir.region fun e h => ?_)
        simp only [↓reduceIte, reduceCtorEq, nA, nS, nM, nE, nL, nT, nB, iT, iN, iE, and_self, SR, SV, ENMB]
        refine Mir.use (e := e) ?_ h
        refine Mir.ret fun e h => ?_
        cases h
        simp only [↓reduceIte, reduceCtorEq, nA, nE, nL, and_self, and_true, true_and, SL, ENMB, Tryz.results37]
       ·refine Mir.skip (Mir.toB (Mir.toK (Mir.region fun e h => ?_)))
        simp only [↓reduceIte, reduceCtorEq, nA, nS, nM, nE, nL, nT, nB, iT, iN, iE, and_self, SR, SV, ENMB]
        cases h
        simp only [↓reduceIte, reduceCtorEq, nA, nE, nL, and_self, and_true, true_and, SL, ENMB, Tryz.results37, qr94]
     ·intro v128 qd95
      refine Mir.seqK (Mir.seqK (Mir.region fun e h => ?_))
      simp only [↓reduceIte, reduceCtorEq, nA, nS, nM, nE, nL, nT, nB, iT, iN, iE, and_self, SR, SV, fld_36_1, sz_34, ag_34, und_34, qd95, ENMB]
      refine Mir.use (e := e) ?_ h
      refine Mir.condF rfl (Mir.exit fun e h => ?_)
      cases h
      simp only [↓reduceIte, reduceCtorEq, nA, nE, nL, and_self, and_true, true_and, SL, ENMB, Tryz.results37]
    ·intro v115
     refine Mir.toK (Mir.seqK (Mir.seqK (Mir.region fun e h => ?_)))
     simp only [↓reduceIte, reduceCtorEq, nA, nS, nM, nE, nL, nT, nB, iT, iN, iE, and_self, SR, SV, ENMB]
     refine Mir.use (e := e) ?_ h
     refine Mir.join (fun v152 : Unit => [U, U, U, U, U, U, U, U, U, U, U, U, U, U, U, U, U, U, U, U, U, U, U, U, U, U, U, U, U, U, U, U, U, U, U, U, U, U, U, U, U, U, U, U, U, U, U, U, U, U, U, U, U, U, U, U, U, U, U]) (fun v152 : Unit => ⟨[[.d (.bool a0.Skip), .d (.list (List.map encApiWord a0.Words)), .d (.str a0.Comment)]], []⟩) (fun _ => rfl) ?_ ?_
     ·refine Mir.block (Mir.guard fun qg170 => Mir.range (fun (i170 : Nat) (v171 : Unit) => [U, .ptr 0 0, U, U, U, .d (.int .i64 (i170 : Int)), U, U, U, U, U, U, U, U, U, U, U, U, U, U, U, U, U, U, U, U, U, U, U, U, U, U, U, U, U, U, U, U, U, U, U, U, U, U, U, U, U, U, U, U, U, U, U, U, U, U, U, U, U]) (fun (i170 : Nat) (v171 : Unit) => ⟨[[.d (.bool a0.Skip), .d (.list (List.map encApiWord a0.Words)), .d (.str a0.Comment)]], []⟩) qg170 (fun _ _ => rfl) (by simp only [↓reduceIte, reduceCtorEq, nA, nE, nL, and_self, and_true, true_and, SL, ENMB, (nr rfl : ((0 : Nat) : Int) = 0)]) (by simp only [↓reduceIte, reduceCtorEq, nA, nE, nL, and_self, and_true, true_and, SL, ENMB, (nr rfl : ((0 : Nat) : Int) = 0)]) ?_ ?_)
      ·intro i170 c172 v171 qr168
       refine Mir.seqK (Mir.seqK (Mir.region fun e h => ?_))
       simp only [↓reduceIte, reduceCtorEq, nA, nS, nM, nE, nL, nT, nB, iT, iN, iE, and_self, SR, SV, fld_36_2, sz_9, ag_9, und_9, qr168, ENMB]
       refine Mir.use (e := e) ?_ h
       refine Mir.condT rfl (Mir.skip (Mir.toK (Mir.seqK (Mir.block (Mir.seqK (Mir.bind fun y174 hy173 => Mir.region fun e h => ?_))))))
       simp only [↓reduceIte, reduceCtorEq, nA, nS, nM, nE, nL, nT, nB, iT, iN, iE, and_self, SR, SV, fld_36_2, sz_9, ag_9, und_9, Int.toNat_natCast, qr168, ENMB]
       refine SpecS.by (r41_printable_spec hy173) (by simp only [↓reduceIte, reduceCtorEq, nA, nE, nL, and_self, and_true, true_and, SL, ENMB]) ?_
       simp only [↓reduceIte, reduceCtorEq, nA, nS, nM, nE, nL, nT, nB, iT, iN, iE, and_self, SR, SV, ENMB]
       refine Mir.use (e := e) ?_ h
       refine Mir.cond rfl (fun hb175 => ?_) (fun hb175 => ?_)
       ·refine Mir.seqK (Mir.region fun e h => ?_)
        simp only [↓reduceIte, reduceCtorEq, nA, nS, nM, nE, nL, nT, nB, iT, iN, iE, and_self, SR, SV, ENMB]
        refine Mir.use (e := e) ?_ h
        refine Mir.ret fun e h => ?_
        cases h
        simp only [↓reduceIte, reduceCtorEq, nA, nE, nL, and_self, and_true, true_and, SL, ENMB, Tryz.results37]
       ·refine Mir.skip (Mir.toB (Mir.toK (Mir.region fun e h => ?_)))
        simp only [↓reduceIte, reduceCtorEq, nA, nS, nM, nE, nL, nT, nB, iT, iN, iE, and_self, SR, SV, ENMB]
        cases h
        simp only [↓reduceIte, reduceCtorEq, nA, nE, nL, and_self, and_true, true_and, SL, ENMB, Tryz.results37, qr168]
      ·intro v171 qd169
       refine Mir.seqK (Mir.seqK (Mir.region fun e h => ?_))
       simp only [↓reduceIte, reduceCtorEq, nA, nS, nM, nE, nL, nT, nB, iT, iN, iE, and_self, SR, SV, fld_36_2, sz_9, ag_9, und_9, qd169, ENMB]
       refine Mir.use (e := e) ?_ h
       refine Mir.condF rfl (Mir.exit fun e h => ?_)
       cases h
       simp only [↓reduceIte, reduceCtorEq, nA, nE, nL, and_self, and_true, true_and, SL, ENMB, Tryz.results37]
     ·intro v152
      refine Mir.toK (Mir.seqK (Mir.region fun e h => ?_))
      simp only [↓reduceIte, reduceCtorEq, nA, nS, nM, nE, nL, nT, nB, iT, iN, iE, and_self, SR, SV, ENMB]
      refine Mir.use (e := e) ?_ h
      refine Mir.ret fun e h => ?_
      cases h
      simp only [↓reduceIte, reduceCtorEq, nA, nE, nL, and_self, and_true, true_and, SL, ENMB, Tryz.results37]

def r41_Word (a0 : ApiWord) : Option (List UInt8) :=
  bindO (r41_Text a0.Value) fun (y101 : (List UInt8)) =>
  guardO (okStr (runeS (IntKind.i32.wrap a0.Letter)) y101) (
  some ((runeS (IntKind.i32.wrap a0.Letter)) ++ y101))
theorem r41_Word_spec {a0 : ApiWord} {y : (List UInt8)} (h : r41_Word a0 = some y) : Spec gP 38 [.agg [.d (.int .u8 a0.Letter), .d (.int .i64 a0.Value)]] (.d (.str y)) := by
  refine spec_mir Tryz.func38 rfl (by kernel_rfl) (by kernel_rfl) (fun y : (List UInt8) => .d (.str y)) ?_ h
  unfold r41_Word
  simp only [List.replicate, List.length, nS, nA, Tryz.ntmps38, SV]
  refine Mir.seqK (Mir.region fun e h => ?_)
  simp only [↓reduceIte, reduceCtorEq, nA, nS, nM, nE, nL, nT, nB, iT, iN, iE, and_self, SR, SV]
  refine Mir.use (e := e) ?_ h
  refine Mir.seqK (Mir.bind fun y101 hy1 => Mir.guard fun q2 => ?_)
  replace q2 := okStr_ok q2
  refine Mir.regionD [] (by kernel_rfl) fun e h => ?_
  simp only [↓reduceIte, reduceCtorEq, nA, nS, nM, nE, nL, nT, nB, iT, iN, iE, and_self, SR, SV, sepL_nil, sepL_cons, sepV_ne, sepV_d, sepV_i, true_and, Bool.and_self, fld_58_0, sz_5, ag_5, und_5, und_21, und_9, rune_enc, fld_58_1, sz_2, ag_2]
  refine Spec.by (r41_Text_spec hy1) (by simp only [↓reduceIte, reduceCtorEq, nA, nE, nL, and_self, and_true, true_and, SL]) ?_
  simp only [↓reduceIte, reduceCtorEq, nA, nS, nM, nE, nL, nT, nB, iT, iN, iE, and_self, SR, SV, sepL_nil, sepL_cons, sepV_ne, sepV_d, sepV_i, true_and, Bool.and_self, q2]
  refine Mir.use (e := e) ?_ h
  refine Mir.ret fun e h => ?_
  cases h
  simp only [↓reduceIte, reduceCtorEq, nA, nE, nL, and_self, and_true, true_and, SL, Tryz.results38]

def r41_Format (a0 : ApiBlock) : Option ((List UInt8) × Int) :=
  bindO (r41_Valid a0) fun (y101 : Int) =>
  if (y101 != 0) = true then
    some ([], y101)
  else
    bindO (guardO (okIdx a0.Words) (
        rangeX (fun (i152 : Nat) (e154 : ApiWord) (v153 : (List UInt8)) =>
          bindO (if (decide ((i152 : Int) > 0)) = true then
                guardO (okStr v153 [32]) (
                some (v153 ++ [32]))
              else
                some v153) fun (v157 : (List UInt8)) =>
          bindO (r41_Word e154) fun (y158 : (List UInt8)) =>
          guardO (okStr v157 y158) (
          some (.go (v157 ++ y158)))) (fun (v153 : (List UInt8)) => some v153) a0.Words 0 [])) fun (v130 : (List UInt8)) =>
    bindO (if (!(a0.Comment == [])) = true then
          bindO (if (!(v130 == [])) = true then
                guardO (okStr v130 [32]) (
                some (v130 ++ [32]))
              else
                some v130) fun (v161 : (List UInt8)) =>
          guardO (okStr v161 [40]) (
          guardO (okStr (v161 ++ [40]) a0.Comment) (
          guardO (okStr ((v161 ++ [40]) ++ a0.Comment) [41]) (
          some (((v161 ++ [40]) ++ a0.Comment) ++ [41]))))
        else
          some v130) fun (v160 : (List UInt8)) =>
    bindO (if a0.Skip = true then
          guardO (okStr [47] v160) (
          some ([47] ++ v160))
        else
          some v160) fun (v162 : (List UInt8)) =>
    some (v162, 0)
set_option maxHeartbeats 8000000 in
theorem r41_Format_spec {a0 : ApiBlock} {y : (List UInt8) × Int} (h : r41_Format a0 = some y) : Spec gP 23 [.agg [.d (.bool a0.Skip), .d (.list (List.map encApiWord a0.Words)), .d (.str a0.Comment)]] (.tuple [.d (.str y.1), .d (.int .i64 y.2)]) := by
  refine spec_mir Tryz.func23 rfl (by kernel_rfl) (by kernel_rfl) (fun y : (List UInt8) × Int => .tuple [.d (.str y.1), .d (.int .i64 y.2)]) ?_ h
  unfold r41_Format
  simp only [List.replicate, List.length, nS, nA, Tryz.ntmps23, SV]
  refine Mir.seqK (Mir.region fun e h => ?_)
  simp only [↓reduceIte, reduceCtorEq, nA, nS, nM, nE, nL, nT, nB, iT, iN, iE, and_self, SR, SV, ENMB]
  refine Mir.use (e := e) ?_ h
  refine Mir.seqK (Mir.seqK (Mir.bind fun y101 hy1 => Mir.region fun e h => ?_))
  simp only [↓reduceIte, reduceCtorEq, nA, nS, nM, nE, nL, nT, nB, iT, iN, iE, and_self, SR, SV, ag_36, sz_36, ENMB]
  refine SpecS.by (r41_Valid_spec hy1) (by simp only [↓reduceIte, reduceCtorEq, nA, nE, nL, and_self, and_true, true_and, SL, ENMB]) ?_
  simp only [↓reduceIte, reduceCtorEq, nA, nS, nM, nE, nL, nT, nB, iT, iN, iE, and_self, SR, SV, ENMB]
  refine Mir.use (e := e) ?_ h
  refine Mir.seqK (Mir.region fun e h => ?_)
  simp only [↓reduceIte, reduceCtorEq, nA, nS, nM, nE, nL, nT, nB, iT, iN, iE, and_self, SR, SV, ENMB]
  refine Mir.use (e := e) ?_ h
  refine Mir.cond rfl (fun hb3 => ?_) (fun hb3 => ?_)
  ·refine Mir.seqK (Mir.region fun e h => ?_)
   simp only [↓reduceIte, reduceCtorEq, nA, nS, nM, nE, nL, nT, nB, iT, iN, iE, and_self, SR, SV, ENMB]
   refine Mir.use (e := e) ?_ h
   refine Mir.ret fun e h => ?_
   cases h
   simp only [↓reduceIte, reduceCtorEq, nA, nE, nL, and_self, and_true, true_and, SL, ENMB, Tryz.results23]
  ·refine Mir.skip (Mir.toK (Mir.seqK (Mir.region fun e h => ?_)))
   simp only [↓reduceIte, reduceCtorEq, nA, nS, nM, nE, nL, nT, nB, iT, iN, iE, and_self, SR, SV, ENMB]
   refine Mir.use (e := e) ?_ h
   refine Mir.seqK (Mir.seqK (Mir.region fun e h => ?_))
   simp only [↓reduceIte, reduceCtorEq, nA, nS, nM, nE, nL, nT, nB, iT, iN, iE, and_self, SR, SV, ENMB]
   refine Mir.use (e := e) ?_ h
   refine Mir.joinO (fun v130 : (List UInt8) => [U, .ptr 0 0, U, U, U, .d (.str v130), U, U, U, U, U, U, U, U, U, U, U, U, U, U, U, U, U, U, U, U, U, U, U, U, U, U, U, U, U, U, U, U, U, U, U, U, U, U, U, U, U, U, U]) (fun v130 : (List UInt8) => ⟨[[.d (.bool a0.Skip), .d (.list (List.map encApiWord a0.Words)), .d (.str a0.Comment)]], []⟩) (fun _ => rfl) ?_ ?_
   ·refine Mir.block (Mir.guard fun qg101 => Mir.range (fun (i152 : Nat) (v153 : (List UInt8)) => [U, .ptr 0 0, U, U, U, .d (.str v153), .d (.int .i64 (i152 : Int)), U, U, U, U, U, U, U, U, U, U, U, U, U, U, U, U, U, U, U, U, U, U, U, U, U, U, U, U, U, U, U, U, U, U, U, U, U, U, U, U, U, U]) (fun (i152 : Nat) (v153 : (List UInt8)) => ⟨[[.d (.bool a0.Skip), .d (.list (List.map encApiWord a0.Words)), .d (.str a0.Comment)]], []⟩) qg101 (fun _ _ => rfl) (by simp only [↓reduceIte, reduceCtorEq, nA, nE, nL, and_self, and_true, true_and, SL, ENMB, (nr rfl : ((0 : Nat) : Int) = 0)]) (by simp only [↓reduceIte, reduceCtorEq, nA, nE, nL, and_self, and_true, true_and, SL, ENMB, (nr rfl : ((0 : Nat) : Int) = 0)]) ?_ ?_)
    ·intro i152 e154 v153 qr99
     refine Mir.seqK (Mir.seqK (Mir.region fun e h => ?_))
     simp only [↓reduceIte, reduceCtorEq, nA, nS, nM, nE, nL, nT, nB, iT, iN, iE, and_self, SR, SV, fld_36_1, sz_34, ag_34, und_34, qr99, ENMB]
     refine Mir.use (e := e) ?_ h
     refine Mir.condT rfl (Mir.skip (Mir.toK (Mir.seqK (Mir.block (Mir.seqK (Mir.seqK (Mir.region fun e h => ?_)))))))
     simp only [↓reduceIte, reduceCtorEq, nA, nS, nM, nE, nL, nT, nB, iT, iN, iE, and_self, SR, SV, ENMB]
     refine Mir.use (e := e) ?_ h
     refine Mir.joinO (fun v157 : (List UInt8) => [U, .ptr 0 0, U, U, U, .d (.str v157), .d (.int .i64 (i152 : Int)), U, U, U, U, U, U, U, U, U, U, U, U, U, U, U, U, U, U, U, U, U, U, U, U, U, U, U, U, U, U, U, U, U, U, U, U, U, U, U, U, U, U]) (fun v157 : (List UInt8) => ⟨[[.d (.bool a0.Skip), .d (.list (List.map encApiWord a0.Words)), .d (.str a0.Comment)]], []⟩) (fun _ => rfl) ?_ ?_
     ·refine Mir.cond rfl (fun hb110 => ?_) (fun hb110 => ?_)
      ·refine Mir.guard fun q111 => ?_
       replace q111 := okStr_ok q111
       try simp only [lm, xNA, xCA, xAN, xLC, xLN, xAC, xAL, nA, Nat.zero_add] at q111
       refine Mir.region fun e h => ?_
       simp only [↓reduceIte, reduceCtorEq, nA, nS, nM, nE, nL, nT, nB, iT, iN, iE, and_self, SR, SV, q111, ENMB]
       cases h
       simp only [↓reduceIte, reduceCtorEq, nA, nE, nL, and_self, and_true, true_and, SL, ENMB, Tryz.results23]
      ·refine Mir.skip fun e h => ?_
       cases h
       simp only [↓reduceIte, reduceCtorEq, nA, nE, nL, and_self, and_true, true_and, SL, ENMB, Tryz.results23]
     ·intro v157
      refine Mir.toK (Mir.bind fun y158 hy112 => Mir.guard fun q113 => ?_)
      replace q113 := okStr_ok q113
      refine Mir.region fun e h => ?_
      simp only [↓reduceIte, reduceCtorEq, nA, nS, nM, nE, nL, nT, nB, iT, iN, iE, and_self, SR, SV, fld_36_1, sz_34, ag_34, und_34, sz_58, qr99, Int.toNat_natCast, ag_58, ENMB]
      refine SpecS.by (r41_Word_spec hy112) (by simp only [↓reduceIte, reduceCtorEq, nA, nE, nL, and_self, and_true, true_and, SL, ENMB]) ?_
      simp only [↓reduceIte, reduceCtorEq, nA, nS, nM, nE, nL, nT, nB, iT, iN, iE, and_self, SR, SV, q113, ENMB]
      refine Mir.use (e := e) ?_ h
      refine Mir.region fun e h => ?_
      simp only [↓reduceIte, reduceCtorEq, nA, nS, nM, nE, nL, nT, nB, iT, iN, iE, and_self, SR, SV, ENMB]
      cases h
      simp only [↓reduceIte, reduceCtorEq, nA, nE, nL, and_self, and_true, true_and, SL, ENMB, Tryz.results23, qr99]
    ·intro v153 qd100
     refine Mir.seqK (Mir.seqK (Mir.region fun e h => ?_))
     simp only [↓reduceIte, reduceCtorEq, nA, nS, nM, nE, nL, nT, nB, iT, iN, iE, and_self, SR, SV, fld_36_1, sz_34, ag_34, und_34, qd100, ENMB]
     refine Mir.use (e := e) ?_ h
     refine Mir.condF rfl (Mir.exit fun e h => ?_)
     cases h
     simp only [↓reduceIte, reduceCtorEq, nA, nE, nL, and_self, and_true, true_and, SL, ENMB, Tryz.results23]
   ·intro v130
    refine Mir.toK (Mir.seqK (Mir.seqK (Mir.region fun e h => ?_)))
    simp only [↓reduceIte, reduceCtorEq, nA, nS, nM, nE, nL, nT, nB, iT, iN, iE, and_self, SR, SV, fld_36_2, sz_9, ag_9, ENMB]
    refine Mir.use (e := e) ?_ h
    refine Mir.joinO (fun v160 : (List UInt8) => [U, .ptr 0 0, U, U, U, .d (.str v160), U, U, U, U, U, U, U, U, U, U, U, U, U, U, U, U, U, U, U, U, U, U, U, U, U, U, U, U, U, U, U, U, U, U, U, U, U, U, U, U, U, U, U]) (fun v160 : (List UInt8) => ⟨[[.d (.bool a0.Skip), .d (.list (List.map encApiWord a0.Words)), .d (.str a0.Comment)]], []⟩) (fun _ => rfl) ?_ ?_
    ·refine Mir.cond rfl (fun hb122 => ?_) (fun hb122 => ?_)
     ·refine Mir.seqK (Mir.seqK (Mir.region fun e h => ?_))
      simp only [↓reduceIte, reduceCtorEq, nA, nS, nM, nE, nL, nT, nB, iT, iN, iE, and_self, SR, SV, ENMB]
      refine Mir.use (e := e) ?_ h
      refine Mir.joinO (fun v161 : (List UInt8) => [U, .ptr 0 0, U, U, U, .d (.str v161), U, U, U, U, U, U, U, U, U, U, U, U, U, U, U, U, U, U, U, U, U, U, U, U, U, U, U, U, U, U, U, U, U, U, U, U, U, U, U, U, U, U, U]) (fun v161 : (List UInt8) => ⟨[[.d (.bool a0.Skip), .d (.list (List.map encApiWord a0.Words)), .d (.str a0.Comment)]], []⟩) (fun _ => rfl) ?_ ?_
      ·refine Mir.cond rfl (fun hb125 => ?_) (fun hb125 => ?_)
       ·refine Mir.guard fun q126 => ?_
        replace q126 := okStr_ok q126
        try simp only [lm, xNA, xCA, xAN, xLC, xLN, xAC, xAL, nA, Nat.zero_add] at q126
        refine Mir.region fun e h => ?_
        simp only [↓reduceIte, reduceCtorEq, nA, nS, nM, nE, nL, nT, nB, iT, iN, iE, and_self, SR, SV, q126, ENMB]
        cases h
        simp only [↓reduceIte, reduceCtorEq, nA, nE, nL, and_self, and_true, true_and, SL, ENMB, Tryz.results23]
       ·refine Mir.skip fun e h => ?_
        cases h
        simp only [↓reduceIte, reduceCtorEq, nA, nE, nL, and_self, and_true, true_and, SL, ENMB, Tryz.results23]
      ·intro v161
       refine Mir.toK (Mir.guard fun q127 => ?_)
       replace q127 := okStr_ok q127
       try simp only [lm, xNA, xCA, xAN, xLC, xLN, xAC, xAL, nA, Nat.zero_add] at q127
       refine Mir.guard fun q128 => ?_
       replace q128 := okStr_ok q128
       try simp only [lm, xNA, xCA, xAN, xLC, xLN, xAC, xAL, nA, Nat.zero_add] at q128
       refine Mir.guard fun q129 => ?_
       replace q129 := okStr_ok q129
       try simp only [lm, xNA, xCA, xAN, xLC, xLN, xAC, xAL, nA, Nat.zero_add] at q129
       refine Mir.region fun e h => ?_
       simp only [↓reduceIte, reduceCtorEq, nA, nS, nM, nE, nL, nT, nB, iT, iN, iE, and_self, SR, SV, q127, fld_36_2, sz_9, ag_9, q128, q129, ENMB]
       cases h
       simp only [↓reduceIte, reduceCtorEq, nA, nE, nL, and_self, and_true, true_and, SL, ENMB, Tryz.results23]
     ·refine Mir.skip fun e h => ?_
      cases h
      simp only [↓reduceIte, reduceCtorEq, nA, nE, nL, and_self, and_true, true_and, SL, ENMB, Tryz.results23]
    ·intro v160
     refine Mir.toK (Mir.seqK (Mir.seqK (Mir.region fun e h => ?_)))
     simp only [↓reduceIte, reduceCtorEq, nA, nS, nM, nE, nL, nT, nB, iT, iN, iE, and_self, SR, SV, fld_36_0, sz_4, ag_4, ENMB]
     refine Mir.use (e := e) ?_ h
     refine Mir.joinO (fun v162 : (List UInt8) => [U, U, U, U, U, .d (.str v162), U, U, U, U, U, U, U, U, U, U, U, U, U, U, U, U, U, U, U, U, U, U, U, U, U, U, U, U, U, U, U, U, U, U, U, U, U, U, U, U, U, U, U]) (fun v162 : (List UInt8) => ⟨[[.d (.bool a0.Skip), .d (.list (List.map encApiWord a0.Words)), .d (.str a0.Comment)]], []⟩) (fun _ => rfl) ?_ ?_
     ·refine Mir.cond rfl (fun hb132 => ?_) (fun hb132 => ?_)
      ·refine Mir.guard fun q133 => ?_
       replace q133 := okStr_ok q133
       try simp only [lm, xNA, xCA, xAN, xLC, xLN, xAC, xAL, nA, Nat.zero_add] at q133
       refine Mir.region fun e h => ?_
       simp only [↓reduceIte, reduceCtorEq, nA, nS, nM, nE, nL, nT, nB, iT, iN, iE, and_self, SR, SV, q133, ENMB]
       cases h
       simp only [↓reduceIte, reduceCtorEq, nA, nE, nL, and_self, and_true, true_and, SL, ENMB, Tryz.results23]
      ·refine Mir.skip fun e h => ?_
       cases h
       simp only [↓reduceIte, reduceCtorEq, nA, nE, nL, and_self, and_true, true_and, SL, ENMB, Tryz.results23]
     ·intro v162
      refine Mir.toK (Mir.seqK (Mir.region fun e h => ?_))
      simp only [↓reduceIte, reduceCtorEq, nA, nS, nM, nE, nL, nT, nB, iT, iN, iE, and_self, SR, SV, ENMB]
      refine Mir.use (e := e) ?_ h
      refine Mir.ret fun e h => ?_
      cases h
      simp only [↓reduceIte, reduceCtorEq, nA, nE, nL, and_self, and_true, true_and, SL, ENMB, Tryz.results23]

def r41_comment (a0 : (List UInt8)) (a1 : Int) : Option ((List UInt8) × Int × Int) :=
  bindO (loopX (fun (v136 : Int) =>
        bindO (if (decide (v136 < (a0.length : Int))) = true then
              bindO (gt a0 v136) fun (c137 : UInt8) =>
              bindO (r41_printable (c137.toNat : Int)) fun (y138 : Bool) =>
              some y138
            else
              some false) fun (v139 : Bool) =>
        if v139 = true then
          some (.go (IntKind.i64.wrap (v136 + 1)))
        else
          some (.ret v136)) fuel (IntKind.i64.wrap (a1 + 1))) fun (v120 : Int) =>
  if (decide ((IntKind.i64.wrap ((IntKind.i64.wrap (v120 - a1)) - 1)) > 100)) = true then
    some ([], a1, 3)
  else
    bindO (if (v120 == (a0.length : Int)) = true then
          some true
        else
          bindO (gt a0 v120) fun (c140 : UInt8) =>
          if ((c140.toNat : Int) != 41) = true then
            some true
          else
            some (v120 == (IntKind.i64.wrap (a1 + 1)))) fun (v141 : Bool) =>
    if v141 = true then
      some ([], v120, 2)
    else
      if (decide ((IntKind.i64.wrap (v120 + 1)) < (a0.length : Int))) = true then
        some ([], IntKind.i64.wrap (v120 + 1), 2)
      else
        bindO (cutL a0 (IntKind.i64.wrap (a1 + 1)) v120) fun (s142 : (List UInt8)) =>
        some (s142, IntKind.i64.wrap (v120 + 1), 0)
theorem r41_comment_spec {a0 : (List UInt8)} {a1 : Int} {y : (List UInt8) × Int × Int} (h : r41_comment a0 a1 = some y) : Spec gP 33 [.d (.str a0), .d (.int .i64 a1)] (.tuple [.d (.str y.1), .d (.int .i64 y.2.1), .d (.int .i64 y.2.2)]) := by
  refine spec_mir Tryz.func33 rfl (by kernel_rfl) (by kernel_rfl) (fun y : (List UInt8) × Int × Int => .tuple [.d (.str y.1), .d (.int .i64 y.2.1), .d (.int .i64 y.2.2)]) ?_ h
  unfold r41_comment
  simp only [List.replicate, List.length, nS, nA, Tryz.ntmps33, SV]
  refine Mir.seqK (Mir.region fun e h => ?_)
  simp only [↓reduceIte, reduceCtorEq, nA, nS, nM, nE, nL, nT, nB, iT, iN, iE, and_self, SR, SV]
  refine Mir.use (e := e) ?_ h
  refine Mir.seqK (Mir.region fun e h => ?_)
  simp only [↓reduceIte, reduceCtorEq, nA, nS, nM, nE, nL, nT, nB, iT, iN, iE, and_self, SR, SV]
  refine Mir.use (e := e) ?_ h
  refine Mir.seqK (Mir.joinO (fun v120 : Int => [.d (.str a0), .d (.int .i64 a1), U, U, U, U, U, .d (.int .i64 v120), U, U, U, U, U, U, U, U, U, U, U, U, U, U, U, U, U, U, U, U, U, U, U, U, U, U, U, U, U, U, U, U, U, U, U, U, U, U, U, U, U, U, U, U, U, U, U, U, U, U, U]) (fun v120 : Int => ⟨[], []⟩) (fun _ => rfl) ?_ ?_)
  ·refine Mir.block (Mir.loop (fun v136 : Int => [.d (.str a0), .d (.int .i64 a1), U, U, U, U, U, .d (.int .i64 v136), U, U, U, U, U, U, U, U, U, U, U, U, U, U, U, U, U, U, U, U, U, U, U, U, U, U, U, U, U, U, U, U, U, U, U, U, U, U, U, U, U, U, U, U, U, U, U, U, U, U, U]) (fun v136 : Int => ⟨[], []⟩) (fun _ => rfl) (by simp only [↓reduceIte, reduceCtorEq, nA, nE, nL, and_self, and_true, true_and, SL]) (by simp only [↓reduceIte, reduceCtorEq, nA, nE, nL, and_self, and_true, true_and, SL]) fun v136 => Mir.seqK (Mir.seqK (Mir.joinO (fun v139 : Bool => [.d (.str a0), .d (.int .i64 a1), U, U, U, U, U, .d (.int .i64 v136), U, U, U, U, U, U, U, U, U, U, U, .d (.bool v139), U, U, U, U, U, U, U, U, U, U, U, U, U, U, U, U, U, U, U, U, U, U, U, U, U, U, U, U, U, U, U, U, U, U, U, U, U, U, U]) (fun v139 : Bool => ⟨[], []⟩) (fun _ => rfl) ?_ ?_)))
   ·refine Mir.ite (fun hb38 => ?_) (fun hb38 => ?_)
    ·refine Mir.bind fun c137 q39 => ?_
     replace q39 := gt_ok q39
     refine Mir.bind fun y138 hy40 => Mir.region fun e h => ?_
     simp only [↓reduceIte, reduceCtorEq, nA, nS, nM, nE, nL, nT, nB, iT, iN, iE, and_self, SR, SV, und_9, q39, hb38]
     refine SpecS.by (r41_printable_spec hy40) (by simp only [↓reduceIte, reduceCtorEq, nA, nE, nL, and_self, and_true, true_and, SL, hb38]) ?_
     simp only [↓reduceIte, reduceCtorEq, nA, nS, nM, nE, nL, nT, nB, iT, iN, iE, and_self, SR, SV, hb38]
     cases h
     simp only [↓reduceIte, reduceCtorEq, nA, nE, nL, and_self, and_true, true_and, SL, hb38]
    ·refine Mir.region fun e h => ?_
     simp only [↓reduceIte, reduceCtorEq, nA, nS, nM, nE, nL, nT, nB, iT, iN, iE, and_self, SR, SV, und_9, hb38]
     cases h
     simp only [↓reduceIte, reduceCtorEq, nA, nE, nL, and_self, and_true, true_and, SL, hb38]
   ·intro v139
    refine Mir.toK (Mir.cond rfl (fun hb42 => ?_) (fun hb42 => ?_))
    ·refine Mir.skip (Mir.toK (Mir.block (Mir.region fun e h => ?_)))
     simp only [↓reduceIte, reduceCtorEq, nA, nS, nM, nE, nL, nT, nB, iT, iN, iE, and_self, SR, SV]
     cases h
     simp only [↓reduceIte, reduceCtorEq, nA, nE, nL, and_self, and_true, true_and, SL, Tryz.results33]
    ·refine Mir.exit fun e h => ?_
     cases h
     simp only [↓reduceIte, reduceCtorEq, nA, nE, nL, and_self, and_true, true_and, SL, Tryz.results33]
  ·intro v120
   refine Mir.toK (Mir.seqK (Mir.seqK (Mir.region fun e h => ?_)))
   simp only [↓reduceIte, reduceCtorEq, nA, nS, nM, nE, nL, nT, nB, iT, iN, iE, and_self, SR, SV]
   refine Mir.use (e := e) ?_ h
   refine Mir.cond rfl (fun hb44 => ?_) (fun hb44 => ?_)
   ·refine Mir.seqK (Mir.region fun e h => ?_)
    simp only [↓reduceIte, reduceCtorEq, nA, nS, nM, nE, nL, nT, nB, iT, iN, iE, and_self, SR, SV]
    refine Mir.use (e := e) ?_ h
    refine Mir.ret fun e h => ?_
    cases h
    simp only [↓reduceIte, reduceCtorEq, nA, nE, nL, and_self, and_true, true_and, SL, Tryz.results33]
   ·refine Mir.skip (Mir.toK (Mir.seqK (Mir.seqK (Mir.joinO (fun v141 : Bool => [.d (.str a0), .d (.int .i64 a1), U, U, U, U, U, .d (.int .i64 v120), U, U, U, U, U, U, U, U, U, U, U, U, U, U, U, U, U, U, U, U, U, U, U, U, U, U, U, U, U, U, U, U, U, U, U, .d (.bool v141), U, U, U, U, U, U, U, U, U, U, U, U, U, U, U]) (fun v141 : Bool => ⟨[], []⟩) (fun _ => rfl) ?_ ?_))))
    ·refine Mir.ite (fun hb45 => ?_) (fun hb45 => ?_)
     ·refine Mir.region fun e h => ?_
      simp only [↓reduceIte, reduceCtorEq, nA, nS, nM, nE, nL, nT, nB, iT, iN, iE, and_self, SR, SV, und_9, hb45]
      cases h
      simp only [↓reduceIte, reduceCtorEq, nA, nE, nL, and_self, and_true, true_and, SL, hb45]
     ·refine Mir.bind fun c140 q46 => ?_
      replace q46 := gt_ok q46
      refine Mir.ite (fun hb47 => ?_) (fun hb47 => ?_)
      ·refine Mir.region fun e h => ?_
       simp only [↓reduceIte, reduceCtorEq, nA, nS, nM, nE, nL, nT, nB, iT, iN, iE, and_self, SR, SV, und_9, q46, hb45, hb47]
       cases h
       simp only [↓reduceIte, reduceCtorEq, nA, nE, nL, and_self, and_true, true_and, SL, hb45, hb47]
      ·refine Mir.region fun e h => ?_
       simp only [↓reduceIte, reduceCtorEq, nA, nS, nM, nE, nL, nT, nB, iT, iN, iE, and_self, SR, SV, und_9, q46, hb45, hb47]
       cases h
       simp only [↓reduceIte, reduceCtorEq, nA, nE, nL, and_self, and_true, true_and, SL, hb45, hb47]
    ·intro v141
     refine Mir.toK (Mir.cond rfl (fun hb49 => ?_) (fun hb49 => ?_))
     ·refine Mir.seqK (Mir.region fun e h => ?_)
      simp only [↓reduceIte, reduceCtorEq, nA, nS, nM, nE, nL, nT, nB, iT, iN, iE, and_self, SR, SV]
      refine Mir.use (e := e) ?_ h
      refine Mir.ret fun e h => ?_
      cases h
      simp only [↓reduceIte, reduceCtorEq, nA, nE, nL, and_self, and_true, true_and, SL, Tryz.results33]
     ·refine Mir.skip (Mir.toK (Mir.seqK (Mir.seqK (Mir.region fun e h => ?_))))
      simp only [↓reduceIte, reduceCtorEq, nA, nS, nM, nE, nL, nT, nB, iT, iN, iE, and_self, SR, SV, und_9]
      refine Mir.use (e := e) ?_ h
      refine Mir.cond rfl (fun hb51 => ?_) (fun hb51 => ?_)
      ·refine Mir.seqK (Mir.region fun e h => ?_)
       simp only [↓reduceIte, reduceCtorEq, nA, nS, nM, nE, nL, nT, nB, iT, iN, iE, and_self, SR, SV]
       refine Mir.use (e := e) ?_ h
       refine Mir.ret fun e h => ?_
       cases h
       simp only [↓reduceIte, reduceCtorEq, nA, nE, nL, and_self, and_true, true_and, SL, Tryz.results33]
      ·refine Mir.skip (Mir.toK (Mir.seqK (Mir.bind fun s142 q52 => ?_)))
       replace q52 := cutL_ok q52
       refine Mir.region fun e h => ?_
       simp only [↓reduceIte, reduceCtorEq, nA, nS, nM, nE, nL, nT, nB, iT, iN, iE, and_self, SR, SV, und_9, q52, Nat.le_refl, and_true, true_and, dm, tm]
       refine Mir.use (e := e) ?_ h
       refine Mir.ret fun e h => ?_
       cases h
       simp only [↓reduceIte, reduceCtorEq, nA, nE, nL, and_self, and_true, true_and, SL, Tryz.results33]

def r41_number (a0 : Int) : Option Bool :=
  some (if (decide (a0 ≥ 48)) = true then (decide (a0 ≤ 57)) || ((a0 == 45) || (a0 == 46)) else (a0 == 45) || (a0 == 46))
theorem r41_number_spec {a0 : Int} {y : Bool} (h : r41_number a0 = some y) : Spec gP 34 [.d (.int .u8 a0)] (.d (.bool y)) := by
  refine spec_mir Tryz.func34 rfl (by kernel_rfl) (by kernel_rfl) (fun y : Bool => .d (.bool y)) ?_ h
  unfold r41_number
  simp only [List.replicate, List.length, nS, nA, Tryz.ntmps34, SV]
  refine Mir.seqK (Mir.region fun e h => ?_)
  simp only [↓reduceIte, reduceCtorEq, nA, nS, nM, nE, nL, nT, nB, iT, iN, iE, and_self, SR, SV]
  refine Mir.use (e := e) ?_ h
  refine Mir.seqK (Mir.joinV [U, U, .d (.bool (if (decide (a0 ≥ 48)) = true then (decide (a0 ≤ 57)) || ((a0 == 45) || (a0 == 46)) else (a0 == 45) || (a0 == 46))), U, U, U, U, U, U, U, U, U, U, U, U, U, U] ⟨[], []⟩ rfl ?_ ?_)
  ·refine SWs.region ?_
   rcases Bool.eq_false_or_eq_true (decide (a0 ≥ 48)) with hb1 | hb1
   ·rcases Bool.eq_false_or_eq_true (decide (a0 ≤ 57)) with hb2 | hb2
    ·simp only [↓reduceIte, reduceCtorEq, nA, nS, nM, nE, nL, nT, nB, iT, iN, iE, and_self, SR, SV, SL, PB, hb1, hb2]
    ·rcases Bool.eq_false_or_eq_true (a0 == 45) with hb3 | hb3
     ·simp only [↓reduceIte, reduceCtorEq, nA, nS, nM, nE, nL, nT, nB, iT, iN, iE, and_self, SR, SV, SL, PB, hb1, hb2, hb3]
     ·simp only [↓reduceIte, reduceCtorEq, nA, nS, nM, nE, nL, nT, nB, iT, iN, iE, and_self, SR, SV, SL, PB, hb1, hb2, hb3]
   ·rcases Bool.eq_false_or_eq_true (a0 == 45) with hb4 | hb4
    ·simp only [↓reduceIte, reduceCtorEq, nA, nS, nM, nE, nL, nT, nB, iT, iN, iE, and_self, SR, SV, SL, PB, hb1, hb4]
    ·simp only [↓reduceIte, reduceCtorEq, nA, nS, nM, nE, nL, nT, nB, iT, iN, iE, and_self, SR, SV, SL, PB, hb1, hb4]
  ·refine Mir.toK (Mir.ret fun e h => ?_)
   cases h
   simp only [↓reduceIte, reduceCtorEq, nA, nE, nL, and_self, and_true, true_and, SL, Tryz.results34]

end Go.Proofs.YtijihbegfmkceaaGreatDoor
