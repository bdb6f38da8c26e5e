/-
  The closure of interpolate.Motions, in the shadow.
-/
import Derived.Test.YtjdjcjhdaedakaaTy
import Derived.Test.YtjdjcjhdaedakaaMoA
namespace Go.Proofs.Ytjdjcjhdaedakaa
open Go.RowKit
set_option linter.unusedSimpArgs false

def encP (p : Int × Int × Int) : List D := [.int .i64 p.1, .int .i64 p.2.1, .int .i64 p.2.2]
def encM (m : Mo) : List D := [.int .i64 m.fx, .int .i64 m.fy, .int .i64 m.fz, .int .i64 m.tx, .int .i64 m.ty, .int .i64 m.tz, .int .i64 m.rate, .int .i64 m.tool, .int .i64 m.blk]
def encV (m : Mv) : List D := [.int .i64 m.k, .int .i64 m.x, .int .i64 m.y, .int .i64 m.z, .int .i64 m.cx, .int .i64 m.cy, .int .i64 m.r]
def posV (p : Int × Int × Int) : List V := [.d (.int .i64 p.1), .d (.int .i64 p.2.1), .d (.int .i64 p.2.2)]

def moS (c0 c5 c6 : List V) (l : List Mv) (tool : Int) (a : Int × Int × Int) (mo : List Mo) : Sg :=
  ⟨[c0, [.d (.list (l.map encV))], [.d (.int .i64 tool)], [.own 0 (mo.map encM)], posV a, c5, c6], [(51, mo.length)]⟩

set_option maxRecDepth 100000 in
set_option maxHeartbeats 1000000 in
theorem moClosure (X : V) (c0 c5 c6 : List V) (l : List Mv) (tool : Int) (i : Nat) (hi : i < l.length) (ps : List (Int × Int × Int)) (a : Int × Int × Int) (mo : List Mo) (hX : X = .d (.list (ps.map encP)) ∨ X = .full (ps.map encP)) (h0 : V.unders 7 1 c0 = true) (h5 : V.unders 7 1 c5 = true) (h6 : V.unders 7 1 c6 = true) (hb : mo.length + ps.length ≤ 1000000) :
    SpecS gP 45 [.d (.int .i64 i), X, .ptr 4 0, .ptr 3 0, .ptr 1 0, .ptr 2 0] (moS c0 c5 c6 l tool a mo) (fun y s => y = .tuple [] ∧ s = moS c0 c5 c6 l tool (lastP a (tag l[i].r i ps)) (mo ++ motM tool a (tag l[i].r i ps))) := by
  have hpl : ∀ k, (motM tool a (tag l[i].r i (ps.take k))).length ≤ ps.length := fun k => by
    have h1 := motM_len tool a (tag l[i].r i (ps.take k))
    rw [tag_len] at h1
    have : (ps.take k).length ≤ ps.length := by simp; omega
    omega
  refine specS_of Try.func45 rfl (by kernel_rfl) (by kernel_rfl) ?_
  rcases hX with rfl | rfl
  · simp [SW_skip, SW_region, SW_seq, SW_cond, condS, SW_block, SW_exit, SW_ret, SW_label, seqQ_normal, seqQ_ret, seqQ_exit, blockQ_normal, blockQ_ret, blockQ_exit, retQ, regS_nil, regS_cons, wantedS, stepS, pureS, evalO, putF, callS, contK_eq, contD_eq, binV, binD, intBin, shiftBin, strBin, lit, litC, convV, unV, lenV, indexAddrV, indexV, fieldAddrV, fieldV, extractV, sliceV, bnd, buildV, fillV, splice, partV, dcells, rowV, appV, datas, chunks, reps, V.data?, V.list?, V.cells?, V.one, eqAll, eqD, D.kind?, resV, resAll, resOne, Ef.sg, V.clean, V.cleans, Try.ntmps45, Try.results45, moS]
    refine SW_loop [] [0, 2, 3, 4, 5, 10, 11, 12] (fun m fr s => ∃ k : Nat, m + k = ps.length ∧ fr = [.d (.int .i64 i), .undef, .ptr 4 0, .ptr 3 0, .ptr 1 0, .ptr 2 0, .undef, .undef, .undef, .undef, .d (.list (ps.map encP)), .d (.int .i64 ps.length), .d (.int .i64 k), .undef, .undef, .undef, .undef, .undef, .undef, .undef, .undef, .undef, .undef, .undef, .undef, .undef, .undef, .undef, .undef, .undef, .undef, .undef, .undef, .undef] ∧ s = moS c0 c5 c6 l tool (lastP a (tag l[i].r i (ps.take k))) (mo ++ motM tool a (tag l[i].r i (ps.take k)))) ps.length rfl ?_ ?_
    · simp [maskF_eq, maskG, moS, tag, motM, lastP]
    · rintro m fr1 s1 ⟨k, hk, rfl, rfl⟩
      refine ⟨rfl, rfl, ?_⟩
      have hmk := hpl k
      by_cases hlt : k < ps.length
      · have hk2 : k < 9223372036854775807 := by omega
        have htk := tag_take_succ l[i].r i ps k hlt
        by_cases he : lastP a (tag l[i].r i (ps.take k)) = ps[k]
        · have hm := motM_snoc_eq tool a (tag l[i].r i (ps.take k)) (ps[k], l[i].r, (i : Int)) he
          have hla := lastP_snoc a (tag l[i].r i (ps.take k)) (ps[k], l[i].r, (i : Int))
          rw [← htk] at hm hla
          generalize lastP a (tag l[i].r i (ps.take k)) = q at *
          subst he
          simp [SW_skip, SW_region, SW_seq, SW_cond, condS, SW_block, SW_exit, SW_ret, SW_label, seqQ_normal, seqQ_ret, seqQ_exit, blockQ_normal, blockQ_ret, blockQ_exit, retQ, regS_nil, regS_cons, wantedS, stepS, pureS, evalO, putF, callS, contK_eq, contD_eq, binV, binD, intBin, shiftBin, strBin, lit, litC, convV, unV, lenV, indexAddrV, indexV, fieldAddrV, fieldV, extractV, sliceV, bnd, buildV, fillV, splice, partV, dcells, rowV, appV, datas, chunks, reps, V.data?, V.list?, V.cells?, V.one, eqAll, eqD, D.kind?, resV, resAll, resOne, Ef.sg, V.clean, V.cleans, moS, posV, hlt, hk2, encP]
          refine ⟨by simp [maskF_eq, maskG, keptOk_eq, keptG, allUnder, V.under, V.unders, Sg.cut, h0, h5, h6], m - 1, by omega, k + 1, by omega, by simp [maskF_eq, maskG, keptOk_eq, keptG, allUnder, V.under, V.unders, Sg.cut], ?_⟩
          simp [Sg.cut, hm, hla, posV]
        · have hm := motM_snoc_ne tool a (tag l[i].r i (ps.take k)) (ps[k], l[i].r, (i : Int)) he
          have hla := lastP_snoc a (tag l[i].r i (ps.take k)) (ps[k], l[i].r, (i : Int))
          rw [← htk] at hm hla
          generalize lastP a (tag l[i].r i (ps.take k)) = q at *
          have he' : (!(q.1 == ps[k].1 && (q.2.1 == ps[k].2.1 && q.2.2 == ps[k].2.2))) = true := by
            rw [Bool.not_eq_true', Bool.eq_false_iff]
            intro h
            simp only [Bool.and_eq_true, beq_iff_eq] at h
            exact he (Prod.ext h.1 (Prod.ext h.2.1 h.2.2))
          have hb2 : okLen (mo.length + (motM tool a (tag l[i].r i (ps.take k))).length + 1) = true := okLen_of (by omega)
          simp [SW_skip, SW_region, SW_seq, SW_cond, condS, SW_block, SW_exit, SW_ret, SW_label, seqQ_normal, seqQ_ret, seqQ_exit, blockQ_normal, blockQ_ret, blockQ_exit, retQ, regS_nil, regS_cons, wantedS, stepS, pureS, evalO, putF, callS, contK_eq, contD_eq, binV, binD, intBin, shiftBin, strBin, lit, litC, convV, unV, lenV, indexAddrV, indexV, fieldAddrV, fieldV, extractV, sliceV, bnd, buildV, fillV, splice, partV, dcells, rowV, appV, datas, chunks, reps, V.data?, V.list?, V.cells?, V.one, eqAll, eqD, D.kind?, resV, resAll, resOne, Ef.sg, V.clean, V.cleans, moS, posV, hlt, hk2, encP, encM, encV, hi, hb2, he']
          refine ⟨by simp [maskF_eq, maskG, keptOk_eq, keptG, allUnder, V.under, V.unders, Sg.cut, h0, h5, h6], m - 1, by omega, k + 1, by omega, by simp [maskF_eq, maskG, keptOk_eq, keptG, allUnder, V.under, V.unders, Sg.cut], ?_⟩
          simp [Sg.cut, hm, hla, posV, encM, mkMo]
          try omega
      · have : ps.take k = ps := List.take_of_length_le (by omega)
        simp [SW_skip, SW_region, SW_seq, SW_cond, condS, SW_block, SW_exit, SW_ret, SW_label, seqQ_normal, seqQ_ret, seqQ_exit, blockQ_normal, blockQ_ret, blockQ_exit, retQ, regS_nil, regS_cons, wantedS, stepS, pureS, evalO, putF, callS, contK_eq, contD_eq, binV, binD, intBin, shiftBin, strBin, lit, litC, convV, unV, lenV, indexAddrV, indexV, fieldAddrV, fieldV, extractV, sliceV, bnd, buildV, fillV, splice, partV, dcells, rowV, appV, datas, chunks, reps, V.data?, V.list?, V.cells?, V.one, eqAll, eqD, D.kind?, resV, resAll, resOne, Ef.sg, V.clean, V.cleans, hlt, moS, this]
  · simp [SW_skip, SW_region, SW_seq, SW_cond, condS, SW_block, SW_exit, SW_ret, SW_label, seqQ_normal, seqQ_ret, seqQ_exit, blockQ_normal, blockQ_ret, blockQ_exit, retQ, regS_nil, regS_cons, wantedS, stepS, pureS, evalO, putF, callS, contK_eq, contD_eq, binV, binD, intBin, shiftBin, strBin, lit, litC, convV, unV, lenV, indexAddrV, indexV, fieldAddrV, fieldV, extractV, sliceV, bnd, buildV, fillV, splice, partV, dcells, rowV, appV, datas, chunks, reps, V.data?, V.list?, V.cells?, V.one, eqAll, eqD, D.kind?, resV, resAll, resOne, Ef.sg, V.clean, V.cleans, Try.ntmps45, Try.results45, moS]
    refine SW_loop [] [0, 2, 3, 4, 5, 10, 11, 12] (fun m fr s => ∃ k : Nat, m + k = ps.length ∧ fr = [.d (.int .i64 i), .undef, .ptr 4 0, .ptr 3 0, .ptr 1 0, .ptr 2 0, .undef, .undef, .undef, .undef, .full (ps.map encP), .d (.int .i64 ps.length), .d (.int .i64 k), .undef, .undef, .undef, .undef, .undef, .undef, .undef, .undef, .undef, .undef, .undef, .undef, .undef, .undef, .undef, .undef, .undef, .undef, .undef, .undef, .undef] ∧ s = moS c0 c5 c6 l tool (lastP a (tag l[i].r i (ps.take k))) (mo ++ motM tool a (tag l[i].r i (ps.take k)))) ps.length rfl ?_ ?_
    · simp [maskF_eq, maskG, moS, tag, motM, lastP]
    · rintro m fr1 s1 ⟨k, hk, rfl, rfl⟩
      refine ⟨rfl, rfl, ?_⟩
      have hmk := hpl k
      by_cases hlt : k < ps.length
      · have hk2 : k < 9223372036854775807 := by omega
        have htk := tag_take_succ l[i].r i ps k hlt
        by_cases he : lastP a (tag l[i].r i (ps.take k)) = ps[k]
        · have hm := motM_snoc_eq tool a (tag l[i].r i (ps.take k)) (ps[k], l[i].r, (i : Int)) he
          have hla := lastP_snoc a (tag l[i].r i (ps.take k)) (ps[k], l[i].r, (i : Int))
          rw [← htk] at hm hla
          generalize lastP a (tag l[i].r i (ps.take k)) = q at *
          subst he
          simp [SW_skip, SW_region, SW_seq, SW_cond, condS, SW_block, SW_exit, SW_ret, SW_label, seqQ_normal, seqQ_ret, seqQ_exit, blockQ_normal, blockQ_ret, blockQ_exit, retQ, regS_nil, regS_cons, wantedS, stepS, pureS, evalO, putF, callS, contK_eq, contD_eq, binV, binD, intBin, shiftBin, strBin, lit, litC, convV, unV, lenV, indexAddrV, indexV, fieldAddrV, fieldV, extractV, sliceV, bnd, buildV, fillV, splice, partV, dcells, rowV, appV, datas, chunks, reps, V.data?, V.list?, V.cells?, V.one, eqAll, eqD, D.kind?, resV, resAll, resOne, Ef.sg, V.clean, V.cleans, moS, posV, hlt, hk2, encP]
          refine ⟨by simp [maskF_eq, maskG, keptOk_eq, keptG, allUnder, V.under, V.unders, Sg.cut, h0, h5, h6], m - 1, by omega, k + 1, by omega, by simp [maskF_eq, maskG, keptOk_eq, keptG, allUnder, V.under, V.unders, Sg.cut], ?_⟩
          simp [Sg.cut, hm, hla, posV]
        · have hm := motM_snoc_ne tool a (tag l[i].r i (ps.take k)) (ps[k], l[i].r, (i : Int)) he
          have hla := lastP_snoc a (tag l[i].r i (ps.take k)) (ps[k], l[i].r, (i : Int))
          rw [← htk] at hm hla
          generalize lastP a (tag l[i].r i (ps.take k)) = q at *
          have he' : (!(q.1 == ps[k].1 && (q.2.1 == ps[k].2.1 && q.2.2 == ps[k].2.2))) = true := by
            rw [Bool.not_eq_true', Bool.eq_false_iff]
            intro h
            simp only [Bool.and_eq_true, beq_iff_eq] at h
            exact he (Prod.ext h.1 (Prod.ext h.2.1 h.2.2))
          have hb2 : okLen (mo.length + (motM tool a (tag l[i].r i (ps.take k))).length + 1) = true := okLen_of (by omega)
          simp [SW_skip, SW_region, SW_seq, SW_cond, condS, SW_block, SW_exit, SW_ret, SW_label, seqQ_normal, seqQ_ret, seqQ_exit, blockQ_normal, blockQ_ret, blockQ_exit, retQ, regS_nil, regS_cons, wantedS, stepS, pureS, evalO, putF, callS, contK_eq, contD_eq, binV, binD, intBin, shiftBin, strBin, lit, litC, convV, unV, lenV, indexAddrV, indexV, fieldAddrV, fieldV, extractV, sliceV, bnd, buildV, fillV, splice, partV, dcells, rowV, appV, datas, chunks, reps, V.data?, V.list?, V.cells?, V.one, eqAll, eqD, D.kind?, resV, resAll, resOne, Ef.sg, V.clean, V.cleans, moS, posV, hlt, hk2, encP, encM, encV, hi, hb2, he']
          refine ⟨by simp [maskF_eq, maskG, keptOk_eq, keptG, allUnder, V.under, V.unders, Sg.cut, h0, h5, h6], m - 1, by omega, k + 1, by omega, by simp [maskF_eq, maskG, keptOk_eq, keptG, allUnder, V.under, V.unders, Sg.cut], ?_⟩
          simp [Sg.cut, hm, hla, posV, encM, mkMo]
          try omega
      · have : ps.take k = ps := List.take_of_length_le (by omega)
        simp [SW_skip, SW_region, SW_seq, SW_cond, condS, SW_block, SW_exit, SW_ret, SW_label, seqQ_normal, seqQ_ret, seqQ_exit, blockQ_normal, blockQ_ret, blockQ_exit, retQ, regS_nil, regS_cons, wantedS, stepS, pureS, evalO, putF, callS, contK_eq, contD_eq, binV, binD, intBin, shiftBin, strBin, lit, litC, convV, unV, lenV, indexAddrV, indexV, fieldAddrV, fieldV, extractV, sliceV, bnd, buildV, fillV, splice, partV, dcells, rowV, appV, datas, chunks, reps, V.data?, V.list?, V.cells?, V.one, eqAll, eqD, D.kind?, resV, resAll, resOne, Ef.sg, V.clean, V.cleans, hlt, moS, this]

end Go.Proofs.Ytjdjcjhdaedakaa
