/-
  swarfref33.Motions, in the shadow.
-/
import Derived.Test.YtjdjcjhdaedakaaMd
namespace Go.Proofs.Ytjdjcjhdaedakaa
open Go.RowKit
set_option linter.unusedSimpArgs false

@[simp] theorem encV_len (m : Mv) : (encV m).length = 7 := rfl
@[simp] theorem encP_len (p : Int × Int × Int) : (encP p).length = 3 := rfl
@[simp] theorem encM_len (m : Mo) : (encM m).length = 9 := rfl

def rmo1 (l : List Mv) (tool : Int) (p : Int × Int × Int) (m : Nat) (fr : Fr) (s : Sg) : Prop :=
  ∃ (i : Nat) (acc : List (List (Int × Int × Int))) (pos : Int × Int × Int), m + i = l.length ∧ acc.length = i ∧ (I64 pos.1 ∧ I64 pos.2.1 ∧ I64 pos.2.2) ∧ runM p.1 p.2.1 p.2.2 l = (acc ++ (runM pos.1 pos.2.1 pos.2.2 (l.drop i)).1, (runM pos.1 pos.2.1 pos.2.2 (l.drop i)).2) ∧ pos = lastP p (tags l 0 acc) ∧
    fr = [.undef, .d (.list (l.map encV)), .d (.int .i64 tool), .ptr 0 0, .undef, .undef, .undef, .undef, .undef, .undef, .own 0 ((motM tool p (tags l 0 acc)).map encM), .d (.int .i64 i), .undef, .undef, .undef, .undef, .undef, .undef, .undef, .undef, .undef, .undef, .undef, .undef, .undef, .undef, .undef, .undef, .undef, .undef, .undef, .undef, .undef, .undef, .undef, .undef, .undef, .undef, .undef, .undef, .undef, .undef, .undef, .undef, .undef, .undef, .undef, .undef, .undef, .undef, .undef, .undef, .undef, .undef, .undef, .undef, .undef, .undef, .undef, .undef, .undef, .undef, .undef, .undef, .undef, .undef, .undef, .undef, .undef, .undef, .undef, .undef, .undef] ∧ s = ⟨[posV pos], [(51, (motM tool p (tags l 0 acc)).length)]⟩
def rmo2 (l : List Mv) (tool : Int) (i : Nat) (r : Int) (mo : List Mo) (pos : Int × Int × Int) (ps : List (Int × Int × Int)) (m : Nat) (fr : Fr) (s : Sg) : Prop :=
  ∃ k : Nat, m + k = ps.length ∧ fr = [.undef, .d (.list (l.map encV)), .d (.int .i64 tool), .ptr 0 0, .undef, .undef, .undef, .undef, .undef, .undef, .own 0 ((mo ++ motM tool pos (tag r i (ps.take k))).map encM), .d (.int .i64 i), .d (.list (ps.map encP)), .undef, .d (.int .i64 k), .undef, .undef, .undef, .undef, .undef, .undef, .undef, .undef, .undef, .undef, .undef, .undef, .undef, .undef, .undef, .undef, .undef, .undef, .undef, .undef, .undef, .undef, .undef, .undef, .undef, .undef, .undef, .undef, .undef, .undef, .undef, .undef, .undef, .undef, .undef, .undef, .undef, .undef, .undef, .undef, .undef, .undef, .undef, .undef, .undef, .undef, .undef, .undef, .undef, .undef, .undef, .undef, .undef, .undef, .undef, .undef, .undef, .undef] ∧ s = ⟨[posV (lastP pos (tag r i (ps.take k)))], [(51, (mo ++ motM tool pos (tag r i (ps.take k))).length)]⟩

theorem runM_one (x y z : Int) (m : Mv) (h : Mv.valid x y z m = 0) : outM (runM x y z [m]) = stepPs x y z m ∧ (runM x y z [m]).2 = 0 ∧ (runM x y z [m]).1.flatten = stepPs x y z m := by
  have : runM x y z [m] = ([stepPs x y z m], 0) := by
    show (if Mv.valid x y z m = 0 then _ else _) = _
    rw [if_pos h]; rfl
  rw [this]; simp [outM]

set_option maxRecDepth 100000 in
set_option maxHeartbeats 2000000 in
theorem rmotionsS (l : List Mv) (tool : Int) (p : Int × Int × Int) (hp : I64 p.1 ∧ I64 p.2.1 ∧ I64 p.2.2) (hok : ∀ m ∈ l, m.ok) (hl : l.length ≤ 1000000) (ht : (runM p.1 p.2.1 p.2.2 l).1.flatten.length ≤ 20000) :
    Spec gP 28 [.agg (posV p), .d (.list (l.map encV)), .d (.int .i64 tool)] (motRes tool p l) := by
  have hpo := rposS p l hp hok hl ht
  refine spec_of Try.func28 rfl (by kernel_rfl) (by kernel_rfl) ?_
  simp [SW_skip, SW_region, SW_seq, SW_cond, condS, SW_block, SW_exit, SW_ret, SW_label, seqQ_normal, seqQ_ret, seqQ_exit, blockQ_normal, blockQ_ret, blockQ_exit, retQ, regS_nil, regS_cons, wantedS, stepS, pureS, evalO, putF, callS, contK_eq, contD_eq, binV, binD, intBin, shiftBin, strBin, lit, litC, convV, unV, lenV, indexAddrV, indexV, fieldAddrV, fieldV, extractV, sliceV, bnd, buildV, fillV, splice, partV, dcells, rowV, appV, datas, chunks, reps, V.data?, V.list?, V.cells?, V.one, eqAll, eqD, D.kind?, resV, resAll, resOne, Ef.sg, V.clean, V.cleans, Try.ntmps28, Try.results28, posV]
  refine SpecS.by hpo (by simp [V.clean, V.cleans, posV]) ?_
  by_cases hz : (runM p.1 p.2.1 p.2.2 l).2 = 0
  · simp [SW_skip, SW_region, SW_seq, SW_cond, condS, SW_block, SW_exit, SW_ret, SW_label, seqQ_normal, seqQ_ret, seqQ_exit, blockQ_normal, blockQ_ret, blockQ_exit, retQ, regS_nil, regS_cons, wantedS, stepS, pureS, evalO, putF, callS, contK_eq, contD_eq, binV, binD, intBin, shiftBin, strBin, lit, litC, convV, unV, lenV, indexAddrV, indexV, fieldAddrV, fieldV, extractV, sliceV, bnd, buildV, fillV, splice, partV, dcells, rowV, appV, datas, chunks, reps, V.data?, V.list?, V.cells?, V.one, eqAll, eqD, D.kind?, resV, resAll, resOne, Ef.sg, V.clean, V.cleans, hz]
    refine SW_loop [.slot 10 51] [1, 2, 3, 10, 11] (rmo1 l tool p) l.length rfl ?_ ?_
    · exact ⟨0, [], p, by omega, rfl, hp, by simp, rfl, by simp [maskF_eq, maskG, keptOk_eq, keptG, allUnder, V.under, V.unders, Sg.cut, tags, motM], by simp [tags, motM, lastP, posV]⟩
    · rintro m fr1 s1 ⟨i, acc, pos, hm, hacc, hpos, hrun, hlast, rfl, rfl⟩
      refine ⟨rfl, rfl, ?_⟩
      by_cases hlt : i < l.length
      · have hi2 : i < 9223372036854775807 := by omega
        have hdr := runM_drop l i hlt pos.1 pos.2.1 pos.2.2
        have hmok := hok _ (List.getElem_mem hlt)
        have hv : Mv.valid pos.1 pos.2.1 pos.2.2 l[i] = 0 := by
          by_cases hv : Mv.valid pos.1 pos.2.1 pos.2.2 l[i] = 0
          · exact hv
          · rw [if_neg hv] at hdr
            rw [hrun, hdr] at hz
            exact hz
        rw [if_pos hv] at hdr
        have hr1 : runM p.1 p.2.1 p.2.2 l = (acc ++ stepPs pos.1 pos.2.1 pos.2.2 l[i] :: (runM l[i].x l[i].y l[i].z (l.drop (i + 1))).1, (runM l[i].x l[i].y l[i].z (l.drop (i + 1))).2) := by rw [hrun, hdr]
        have htg : tags l 0 (acc ++ [stepPs pos.1 pos.2.1 pos.2.2 l[i]]) = tags l 0 acc ++ tag l[i].r i (stepPs pos.1 pos.2.1 pos.2.2 l[i]) := by
          rw [tags_snoc, hacc]; simp [hlt]
        have hstep : acc.flatten.length + (stepPs pos.1 pos.2.1 pos.2.2 l[i]).length ≤ 20000 := by
          have h := ht
          rw [hr1] at h
          simp only [List.flatten_append, List.flatten_cons, List.length_append] at h
          omega
        have hml : (motM tool p (tags l 0 acc)).length ≤ acc.flatten.length := by
          have h1 := motM_len tool p (tags l 0 acc)
          rw [tags_len] at h1; omega
        have hend : lastP p (tags l 0 (acc ++ [stepPs pos.1 pos.2.1 pos.2.2 l[i]])) = (l[i].x, l[i].y, l[i].z) := by
          rw [htg, lastP_append, lastP_tag, stepPs_last hv]; rfl
        have hmo : motM tool p (tags l 0 (acc ++ [stepPs pos.1 pos.2.1 pos.2.2 l[i]])) = motM tool p (tags l 0 acc) ++ motM tool pos (tag l[i].r i (stepPs pos.1 pos.2.1 pos.2.2 l[i])) := by
          rw [htg, motM_append, ← hlast]
        obtain ⟨o1, o2, o3⟩ := runM_one pos.1 pos.2.1 pos.2.2 l[i] hv
        have hsp := rposS pos [l[i]] hpos (fun m hm => by simp at hm; subst hm; exact hmok) (by simp) (by rw [o3]; omega)
        rw [o1, o2] at hsp
        have hend2 : lastP pos (tag l[i].r i (stepPs pos.1 pos.2.1 pos.2.2 l[i])) = (l[i].x, l[i].y, l[i].z) := by
          rw [← hend, htg, lastP_append, ← hlast]
        have htd : List.take 1 (List.drop i (List.map encV l)) = [encV l[i]] := by
          rw [List.drop_eq_getElem_cons (by simpa using hlt)]; simp
        generalize stepPs pos.1 pos.2.1 pos.2.2 l[i] = ps at *
        generalize motM tool p (tags l 0 acc) = mo at *
        have hneg : ¬ ((i : Int) + 1 < 0) := by omega
        have hlt1 : i + 1 ≤ l.length := by omega
        simp [SW_skip, SW_region, SW_seq, SW_cond, condS, SW_block, SW_exit, SW_ret, SW_label, seqQ_normal, seqQ_ret, seqQ_exit, blockQ_normal, blockQ_ret, blockQ_exit, retQ, regS_nil, regS_cons, wantedS, stepS, pureS, evalO, putF, callS, contK_eq, contD_eq, binV, binD, intBin, shiftBin, strBin, lit, litC, convV, unV, lenV, indexAddrV, indexV, fieldAddrV, fieldV, extractV, sliceV, bnd, buildV, fillV, splice, partV, dcells, rowV, appV, datas, chunks, reps, V.data?, V.list?, V.cells?, V.one, eqAll, eqD, D.kind?, resV, resAll, resOne, Ef.sg, V.clean, V.cleans, hlt, hlt1, hi2, hneg, posV, htd]
        refine Spec.by hsp (by simp [posV]) ?_
        simp [SW_skip, SW_region, SW_seq, SW_cond, condS, SW_block, SW_exit, SW_ret, SW_label, seqQ_normal, seqQ_ret, seqQ_exit, blockQ_normal, blockQ_ret, blockQ_exit, retQ, regS_nil, regS_cons, wantedS, stepS, pureS, evalO, putF, callS, contK_eq, contD_eq, binV, binD, intBin, shiftBin, strBin, lit, litC, convV, unV, lenV, indexAddrV, indexV, fieldAddrV, fieldV, extractV, sliceV, bnd, buildV, fillV, splice, partV, dcells, rowV, appV, datas, chunks, reps, V.data?, V.list?, V.cells?, V.one, eqAll, eqD, D.kind?, resV, resAll, resOne, Ef.sg, V.clean, V.cleans]
        refine SW_loop [] [1, 2, 3, 10, 11, 12, 14] (rmo2 l tool i l[i].r mo pos ps) ps.length rfl ?_ ?_
        · exact ⟨0, by omega, by simp [maskF_eq, maskG, keptOk_eq, keptG, allUnder, V.under, V.unders, Sg.cut, tag, motM], by simp [tag, motM, lastP, posV]⟩
        · rintro m2 fr2 s2 ⟨k, hk, rfl, rfl⟩
          refine ⟨rfl, rfl, ?_⟩
          have hmk : (motM tool pos (tag l[i].r i (ps.take k))).length ≤ ps.length := by
            have h1 := motM_len tool pos (tag l[i].r i (ps.take k))
            rw [tag_len] at h1
            have : (ps.take k).length ≤ ps.length := by simp; omega
            omega
          by_cases hlk : k < ps.length
          · have hk2 : k < 9223372036854775807 := by omega
            have htk := tag_take_succ l[i].r i ps k hlk
            by_cases he : lastP pos (tag l[i].r i (ps.take k)) = ps[k]
            · have hm' := motM_snoc_eq tool pos (tag l[i].r i (ps.take k)) (ps[k], l[i].r, (i : Int)) he
              have hla := lastP_snoc pos (tag l[i].r i (ps.take k)) (ps[k], l[i].r, (i : Int))
              rw [← htk] at hm' hla
              generalize lastP pos (tag l[i].r i (ps.take k)) = q at *
              subst he
              simp [SW_skip, SW_region, SW_seq, SW_cond, condS, SW_block, SW_exit, SW_ret, SW_label, seqQ_normal, seqQ_ret, seqQ_exit, blockQ_normal, blockQ_ret, blockQ_exit, retQ, regS_nil, regS_cons, wantedS, stepS, pureS, evalO, putF, callS, contK_eq, contD_eq, binV, binD, intBin, shiftBin, strBin, lit, litC, convV, unV, lenV, indexAddrV, indexV, fieldAddrV, fieldV, extractV, sliceV, bnd, buildV, fillV, splice, partV, dcells, rowV, appV, datas, chunks, reps, V.data?, V.list?, V.cells?, V.one, eqAll, eqD, D.kind?, resV, resAll, resOne, Ef.sg, V.clean, V.cleans, posV, hlk, hk2, encP]
              refine ⟨by simp [maskF_eq, maskG, keptOk_eq, keptG, allUnder, V.under, V.unders, Sg.cut], m2 - 1, by omega, k + 1, by omega, by simp [maskF_eq, maskG, keptOk_eq, keptG, allUnder, V.under, V.unders, Sg.cut, hm'], ?_⟩
              simp [Sg.cut, hm', hla, posV]
            · have hm' := motM_snoc_ne tool pos (tag l[i].r i (ps.take k)) (ps[k], l[i].r, (i : Int)) he
              have hla := lastP_snoc pos (tag l[i].r i (ps.take k)) (ps[k], l[i].r, (i : Int))
              rw [← htk] at hm' hla
              generalize lastP pos (tag l[i].r i (ps.take k)) = q at *
              have he' : (!(ps[k].1 == q.1 && (ps[k].2.1 == q.2.1 && ps[k].2.2 == q.2.2))) = true := by
                rw [Bool.not_eq_true', Bool.eq_false_iff]
                intro h
                simp only [Bool.and_eq_true, beq_iff_eq] at h
                exact he (Prod.ext h.1.symm (Prod.ext h.2.1.symm h.2.2.symm))
              have hb2 : okLen (mo.length + (motM tool pos (tag l[i].r i (ps.take k))).length + 1) = true := okLen_of (by omega)
              simp [SW_skip, SW_region, SW_seq, SW_cond, condS, SW_block, SW_exit, SW_ret, SW_label, seqQ_normal, seqQ_ret, seqQ_exit, blockQ_normal, blockQ_ret, blockQ_exit, retQ, regS_nil, regS_cons, wantedS, stepS, pureS, evalO, putF, callS, contK_eq, contD_eq, binV, binD, intBin, shiftBin, strBin, lit, litC, convV, unV, lenV, indexAddrV, indexV, fieldAddrV, fieldV, extractV, sliceV, bnd, buildV, fillV, splice, partV, dcells, rowV, appV, datas, chunks, reps, V.data?, V.list?, V.cells?, V.one, eqAll, eqD, D.kind?, resV, resAll, resOne, Ef.sg, V.clean, V.cleans, posV, hlk, hk2, encP, encM, encV, hlt, hb2, he']
              refine ⟨by simp [maskF_eq, maskG, keptOk_eq, keptG, allUnder, V.under, V.unders, Sg.cut], m2 - 1, by omega, k + 1, by omega, by simp [maskF_eq, maskG, keptOk_eq, keptG, allUnder, V.under, V.unders, Sg.cut, hm', encM, mkMo], ?_⟩
              simp [Sg.cut, hm', hla, posV]
              try omega
          · have hps : ps.take k = ps := List.take_of_length_le (by omega)
            simp [SW_skip, SW_region, SW_seq, SW_cond, condS, SW_block, SW_exit, SW_ret, SW_label, seqQ_normal, seqQ_ret, seqQ_exit, blockQ_normal, blockQ_ret, blockQ_exit, retQ, regS_nil, regS_cons, wantedS, stepS, pureS, evalO, putF, callS, contK_eq, contD_eq, binV, binD, intBin, shiftBin, strBin, lit, litC, convV, unV, lenV, indexAddrV, indexV, fieldAddrV, fieldV, extractV, sliceV, bnd, buildV, fillV, splice, partV, dcells, rowV, appV, datas, chunks, reps, V.data?, V.list?, V.cells?, V.one, eqAll, eqD, D.kind?, resV, resAll, resOne, Ef.sg, V.clean, V.cleans, hlk, hps, hi2]
            refine ⟨by simp [maskF_eq, maskG, keptOk_eq, keptG, allUnder, V.under, V.unders, Sg.cut, posV], m - 1, by omega, i + 1, acc ++ [ps], (l[i].x, l[i].y, l[i].z), by omega, by simp [hacc], ⟨hmok.2.1, hmok.2.2.1, hmok.2.2.2.1⟩, by rw [hr1]; simp, hend.symm, by simp [maskF_eq, maskG, keptOk_eq, keptG, allUnder, V.under, V.unders, Sg.cut, hmo], ?_⟩
            simp [Sg.cut, hmo, hend2]
      · have hr1 : runM p.1 p.2.1 p.2.2 l = (acc, 0) := by rw [hrun, List.drop_of_length_le (by omega)]; simp [runM]
        simp [SW_skip, SW_region, SW_seq, SW_cond, condS, SW_block, SW_exit, SW_ret, SW_label, seqQ_normal, seqQ_ret, seqQ_exit, blockQ_normal, blockQ_ret, blockQ_exit, retQ, regS_nil, regS_cons, wantedS, stepS, pureS, evalO, putF, callS, contK_eq, contD_eq, binV, binD, intBin, shiftBin, strBin, lit, litC, convV, unV, lenV, indexAddrV, indexV, fieldAddrV, fieldV, extractV, sliceV, bnd, buildV, fillV, splice, partV, dcells, rowV, appV, datas, chunks, reps, V.data?, V.list?, V.cells?, V.one, eqAll, eqD, D.kind?, resV, resAll, resOne, Ef.sg, V.clean, V.cleans, hlt, motRes, hz, motOf, hr1]
  · simp [SW_skip, SW_region, SW_seq, SW_cond, condS, SW_block, SW_exit, SW_ret, SW_label, seqQ_normal, seqQ_ret, seqQ_exit, blockQ_normal, blockQ_ret, blockQ_exit, retQ, regS_nil, regS_cons, wantedS, stepS, pureS, evalO, putF, callS, contK_eq, contD_eq, binV, binD, intBin, shiftBin, strBin, lit, litC, convV, unV, lenV, indexAddrV, indexV, fieldAddrV, fieldV, extractV, sliceV, bnd, buildV, fillV, splice, partV, dcells, rowV, appV, datas, chunks, reps, V.data?, V.list?, V.cells?, V.one, eqAll, eqD, D.kind?, resV, resAll, resOne, Ef.sg, V.clean, V.cleans, hz, motRes]

end Go.Proofs.Ytjdjcjhdaedakaa
