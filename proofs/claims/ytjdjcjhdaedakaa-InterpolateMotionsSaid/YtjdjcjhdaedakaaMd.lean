/-
  interpolate.each with the closure of Motions, and interpolate.Motions, in the shadow.
-/
import Derived.Test.YtjdjcjhdaedakaaMc
namespace Go.Proofs.Ytjdjcjhdaedakaa
open Go.RowKit
set_option linter.unusedSimpArgs false

def motOf (tool : Int) (p : Int × Int × Int) (l : List Mv) : List Mo := motM tool p (tags l 0 (runM p.1 p.2.1 p.2.2 l).1)
def eachR (tool : Int) (p : Int × Int × Int) (l : List Mv) (y : V) (s : Sg) : Prop :=
  y = .d (.int .i64 (runM p.1 p.2.1 p.2.2 l).2) ∧ ((runM p.1 p.2.1 p.2.2 l).2 = 0 → s.obs[3]? = some [.own 0 ((motOf tool p l).map encM)])
def eachS (c0 : List V) (l : List Mv) (tool : Int) (a pos : Int × Int × Int) (mo : List Mo) : Sg :=
  ⟨[c0, [.d (.list (l.map encV))], [.d (.int .i64 tool)], [.own 0 (mo.map encM)], posV a, posV pos], [(51, mo.length)]⟩

def eachI (l : List Mv) (tool : Int) (p : Int × Int × Int) (m : Nat) (fr : Fr) (s : Sg) : Prop := ∃ (j T : Nat) (acc : List (List (Int × Int × Int))) (pos : Int × Int × Int), m + j = l.length ∧ acc.length = j ∧ acc.flatten.length = T ∧ T ≤ 20000 ∧ (I64 pos.1 ∧ I64 pos.2.1 ∧ I64 pos.2.2) ∧ runM p.1 p.2.1 p.2.2 l = (acc ++ (runM pos.1 pos.2.1 pos.2.2 (l.drop j)).1, (runM pos.1 pos.2.1 pos.2.2 (l.drop j)).2) ∧ fr = [.undef, .undef, .fn 45 [.ptr 4 0, .ptr 3 0, .ptr 1 0, .ptr 2 0], .ptr 5 0, .undef, .undef, .undef, .d (.int .i64 T), .undef, .undef, .undef, .undef, .undef, .d (.list (l.map encV)), .d (.int .i64 l.length), .d (.int .i64 j), .undef, .undef, .undef, .undef, .undef, .undef, .undef, .undef, .undef, .undef, .undef, .undef, .undef, .undef, .undef, .undef, .undef, .undef, .undef, .undef, .undef, .undef, .undef, .undef, .undef, .undef, .undef, .undef, .undef, .undef, .undef, .undef, .undef, .undef, .undef, .undef, .undef, .undef, .undef] ∧ s = eachS (posV p) l tool (lastP p (tags l 0 acc)) pos (motM tool p (tags l 0 acc))

set_option maxRecDepth 100000 in
set_option maxHeartbeats 1000000 in
theorem eachMo (l : List Mv) (tool : Int) (p : Int × Int × Int) (hp : I64 p.1 ∧ I64 p.2.1 ∧ I64 p.2.2) (hok : ∀ m ∈ l, m.ok) (hl : l.length ≤ 1000000) (ht : (runM p.1 p.2.1 p.2.2 l).1.flatten.length ≤ 20000) :
    SpecS gP 43 [.agg (posV p), .d (.list (l.map encV)), .fn 45 [.ptr 4 0, .ptr 3 0, .ptr 1 0, .ptr 2 0]] ⟨[posV p, [.d (.list (l.map encV))], [.d (.int .i64 tool)], [.nil], posV p], []⟩ (eachR tool p l) := by
  refine specS_of Try.func43 rfl (by kernel_rfl) (by kernel_rfl) ?_
  simp [SW_skip, SW_region, SW_seq, SW_cond, condS, SW_block, SW_exit, SW_ret, SW_label, seqQ_normal, seqQ_ret, seqQ_exit, blockQ_normal, blockQ_ret, blockQ_exit, retQ, regS_nil, regS_cons, wantedS, stepS, pureS, evalO, putF, callS, contK_eq, contD_eq, binV, binD, intBin, shiftBin, strBin, lit, litC, convV, unV, lenV, indexAddrV, indexV, fieldAddrV, fieldV, extractV, sliceV, bnd, buildV, fillV, splice, partV, dcells, rowV, appV, datas, chunks, reps, V.data?, V.list?, V.cells?, V.one, eqAll, eqD, D.kind?, resV, resAll, resOne, Ef.sg, V.clean, V.cleans, Try.ntmps43, Try.results43, posV]
  refine SW_loop [.cell 3 0 51] [2, 3, 7, 13, 14, 15] (eachI l tool p) l.length rfl ?_ ?_
  · refine ⟨0, 0, [], p, by omega, rfl, rfl, by omega, hp, by simp, by simp [maskF_eq, maskG, keptOk_eq, keptG, allUnder, V.under, V.unders, Sg.cut], by simp [eachS, tags, motM, lastP, posV]⟩
  · rintro m fr1 s1 ⟨j, T, acc, pos, hm, hacc, hT, hT2, hpos, hrun, rfl, rfl⟩
    refine ⟨rfl, rfl, ?_⟩
    by_cases hlt : j < l.length
    · have hj2 : j < 9223372036854775807 := by omega
      have hdr := runM_drop l j hlt pos.1 pos.2.1 pos.2.2
      have hmok := hok _ (List.getElem_mem hlt)
      by_cases hv : Mv.valid pos.1 pos.2.1 pos.2.2 l[j] = 0
      · rw [if_pos hv] at hdr
        have hr1 : runM p.1 p.2.1 p.2.2 l = (acc ++ stepPs pos.1 pos.2.1 pos.2.2 l[j] :: (runM l[j].x l[j].y l[j].z (l.drop (j + 1))).1, (runM l[j].x l[j].y l[j].z (l.drop (j + 1))).2) := by rw [hrun, hdr]
        have hstep : T + (stepPs pos.1 pos.2.1 pos.2.2 l[j]).length ≤ 20000 := by
          have h := ht
          rw [hr1] at h
          simp only [List.flatten_append, List.flatten_cons, List.length_append] at h
          omega
        have hml : (motM tool p (tags l 0 acc)).length ≤ T := by
          have h1 := motM_len tool p (tags l 0 acc)
          rw [tags_len] at h1; omega
        have htg : tags l 0 (acc ++ [stepPs pos.1 pos.2.1 pos.2.2 l[j]]) = tags l 0 acc ++ tag l[j].r j (stepPs pos.1 pos.2.1 pos.2.2 l[j]) := by
          rw [tags_snoc, hacc]; simp [hlt]
        have hvs := validS pos l[j] hpos hmok
        rw [hv] at hvs
        have has := isArcS l[j]
        by_cases ha : l[j].arc = true
        · have hps := arcS pos l[j] hpos hmok ha hv
          rw [ha] at has
          have hcl := moClosure (.d (.list ((stepPs pos.1 pos.2.1 pos.2.2 l[j]).map encP))) (posV p) (posV pos) (mvV l[j]) l tool j hlt (stepPs pos.1 pos.2.1 pos.2.2 l[j]) (lastP p (tags l 0 acc)) (motM tool p (tags l 0 acc)) (.inl rfl) (by simp [V.unders, V.under, posV]) (by simp [V.unders, V.under, posV]) (by simp [V.unders, V.under, mvV]) (by omega)
          rw [← lastP_append, ← motM_append, ← htg] at hcl
          generalize stepPs pos.1 pos.2.1 pos.2.2 l[j] = ps at *
          have hwr : IntKind.i64.wrap ((T : Int) + (ps.length : Int)) = (T : Int) + ps.length := IntWalk.i64_in _ (by omega)
          have hle : (T : Int) + (ps.length : Int) ≤ 20000 := by omega
          simp [SW_skip, SW_region, SW_seq, SW_cond, condS, SW_block, SW_exit, SW_ret, SW_label, seqQ_normal, seqQ_ret, seqQ_exit, blockQ_normal, blockQ_ret, blockQ_exit, retQ, regS_nil, regS_cons, wantedS, stepS, pureS, evalO, putF, callS, contK_eq, contD_eq, binV, binD, intBin, shiftBin, strBin, lit, litC, convV, unV, lenV, indexAddrV, indexV, fieldAddrV, fieldV, extractV, sliceV, bnd, buildV, fillV, splice, partV, dcells, rowV, appV, datas, chunks, reps, V.data?, V.list?, V.cells?, V.one, eqAll, eqD, D.kind?, resV, resAll, resOne, Ef.sg, V.clean, V.cleans, hlt, hj2, eachS, posV, encV]
          refine SpecS.by hvs (by simp [V.clean, V.cleans, posV, mvV]) ?_
          simp [SW_skip, SW_region, SW_seq, SW_cond, condS, SW_block, SW_exit, SW_ret, SW_label, seqQ_normal, seqQ_ret, seqQ_exit, blockQ_normal, blockQ_ret, blockQ_exit, retQ, regS_nil, regS_cons, wantedS, stepS, pureS, evalO, putF, callS, contK_eq, contD_eq, binV, binD, intBin, shiftBin, strBin, lit, litC, convV, unV, lenV, indexAddrV, indexV, fieldAddrV, fieldV, extractV, sliceV, bnd, buildV, fillV, splice, partV, dcells, rowV, appV, datas, chunks, reps, V.data?, V.list?, V.cells?, V.one, eqAll, eqD, D.kind?, resV, resAll, resOne, Ef.sg, V.clean, V.cleans]
          refine SpecS.by has (by simp [V.clean, V.cleans, posV, mvV]) ?_
          simp [SW_skip, SW_region, SW_seq, SW_cond, condS, SW_block, SW_exit, SW_ret, SW_label, seqQ_normal, seqQ_ret, seqQ_exit, blockQ_normal, blockQ_ret, blockQ_exit, retQ, regS_nil, regS_cons, wantedS, stepS, pureS, evalO, putF, callS, contK_eq, contD_eq, binV, binD, intBin, shiftBin, strBin, lit, litC, convV, unV, lenV, indexAddrV, indexV, fieldAddrV, fieldV, extractV, sliceV, bnd, buildV, fillV, splice, partV, dcells, rowV, appV, datas, chunks, reps, V.data?, V.list?, V.cells?, V.one, eqAll, eqD, D.kind?, resV, resAll, resOne, Ef.sg, V.clean, V.cleans]
          refine SpecS.by hps (by simp [V.clean, V.cleans, posV, mvV]) ?_
          simp [SW_skip, SW_region, SW_seq, SW_cond, condS, SW_block, SW_exit, SW_ret, SW_label, seqQ_normal, seqQ_ret, seqQ_exit, blockQ_normal, blockQ_ret, blockQ_exit, retQ, regS_nil, regS_cons, wantedS, stepS, pureS, evalO, putF, callS, contK_eq, contD_eq, binV, binD, intBin, shiftBin, strBin, lit, litC, convV, unV, lenV, indexAddrV, indexV, fieldAddrV, fieldV, extractV, sliceV, bnd, buildV, fillV, splice, partV, dcells, rowV, appV, datas, chunks, reps, V.data?, V.list?, V.cells?, V.one, eqAll, eqD, D.kind?, resV, resAll, resOne, Ef.sg, V.clean, V.cleans, hwr, hle]
          simp only [moS, posV, mvV] at hcl
          refine SpecS.imp hcl ?_
          rintro y s' ⟨rfl, rfl⟩
          simp [SW_skip, SW_region, SW_seq, SW_cond, condS, SW_block, SW_exit, SW_ret, SW_label, seqQ_normal, seqQ_ret, seqQ_exit, blockQ_normal, blockQ_ret, blockQ_exit, retQ, regS_nil, regS_cons, wantedS, stepS, pureS, evalO, putF, callS, contK_eq, contD_eq, binV, binD, intBin, shiftBin, strBin, lit, litC, convV, unV, lenV, indexAddrV, indexV, fieldAddrV, fieldV, extractV, sliceV, bnd, buildV, fillV, splice, partV, dcells, rowV, appV, datas, chunks, reps, V.data?, V.list?, V.cells?, V.one, eqAll, eqD, D.kind?, resV, resAll, resOne, Ef.sg, V.clean, V.cleans, hj2]
          refine ⟨by simp [maskF_eq, maskG, keptOk_eq, keptG, allUnder, V.under, V.unders, Sg.cut], m - 1, by omega, j + 1, T + ps.length, acc ++ [ps], (l[j].x, l[j].y, l[j].z), by omega, by simp [hacc], by simp [hT], by omega, ⟨hmok.2.1, hmok.2.2.1, hmok.2.2.2.1⟩, by rw [hr1]; simp, by simp [maskF_eq, maskG, keptOk_eq, keptG, allUnder, V.under, V.unders, Sg.cut], by simp [Sg.cut, eachS, posV]⟩
        · have ha' : l[j].arc = false := by simpa using ha
          have hps : stepPs pos.1 pos.2.1 pos.2.2 l[j] = [(l[j].x, l[j].y, l[j].z)] := by unfold stepPs; rw [if_neg ha]
          rw [ha'] at has
          rw [hps] at hstep htg hr1
          have hcl := moClosure (.full ([(l[j].x, l[j].y, l[j].z)].map encP)) (posV p) (posV pos) (mvV l[j]) l tool j hlt [(l[j].x, l[j].y, l[j].z)] (lastP p (tags l 0 acc)) (motM tool p (tags l 0 acc)) (.inr rfl) (by simp [V.unders, V.under, posV]) (by simp [V.unders, V.under, posV]) (by simp [V.unders, V.under, mvV]) (by simp only [List.length_cons, List.length_nil] at hstep ⊢; omega)
          rw [← lastP_append, ← motM_append, ← htg] at hcl
          simp only [List.length_cons, List.length_nil] at hstep
          have hwr : IntKind.i64.wrap ((T : Int) + 1) = (T : Int) + 1 := IntWalk.i64_in _ (by omega)
          have hle : (T : Int) + 1 ≤ 20000 := by omega
          simp [SW_skip, SW_region, SW_seq, SW_cond, condS, SW_block, SW_exit, SW_ret, SW_label, seqQ_normal, seqQ_ret, seqQ_exit, blockQ_normal, blockQ_ret, blockQ_exit, retQ, regS_nil, regS_cons, wantedS, stepS, pureS, evalO, putF, callS, contK_eq, contD_eq, binV, binD, intBin, shiftBin, strBin, lit, litC, convV, unV, lenV, indexAddrV, indexV, fieldAddrV, fieldV, extractV, sliceV, bnd, buildV, fillV, splice, partV, dcells, rowV, appV, datas, chunks, reps, V.data?, V.list?, V.cells?, V.one, eqAll, eqD, D.kind?, resV, resAll, resOne, Ef.sg, V.clean, V.cleans, hlt, hj2, eachS, posV, encV]
          refine SpecS.by hvs (by simp [V.clean, V.cleans, posV, mvV]) ?_
          simp [SW_skip, SW_region, SW_seq, SW_cond, condS, SW_block, SW_exit, SW_ret, SW_label, seqQ_normal, seqQ_ret, seqQ_exit, blockQ_normal, blockQ_ret, blockQ_exit, retQ, regS_nil, regS_cons, wantedS, stepS, pureS, evalO, putF, callS, contK_eq, contD_eq, binV, binD, intBin, shiftBin, strBin, lit, litC, convV, unV, lenV, indexAddrV, indexV, fieldAddrV, fieldV, extractV, sliceV, bnd, buildV, fillV, splice, partV, dcells, rowV, appV, datas, chunks, reps, V.data?, V.list?, V.cells?, V.one, eqAll, eqD, D.kind?, resV, resAll, resOne, Ef.sg, V.clean, V.cleans]
          refine SpecS.by has (by simp [V.clean, V.cleans, posV, mvV]) ?_
          simp [SW_skip, SW_region, SW_seq, SW_cond, condS, SW_block, SW_exit, SW_ret, SW_label, seqQ_normal, seqQ_ret, seqQ_exit, blockQ_normal, blockQ_ret, blockQ_exit, retQ, regS_nil, regS_cons, wantedS, stepS, pureS, evalO, putF, callS, contK_eq, contD_eq, binV, binD, intBin, shiftBin, strBin, lit, litC, convV, unV, lenV, indexAddrV, indexV, fieldAddrV, fieldV, extractV, sliceV, bnd, buildV, fillV, splice, partV, dcells, rowV, appV, datas, chunks, reps, V.data?, V.list?, V.cells?, V.one, eqAll, eqD, D.kind?, resV, resAll, resOne, Ef.sg, V.clean, V.cleans, hwr, hle]
          simp only [moS, posV, mvV, List.map_cons, List.map_nil, encP] at hcl
          refine SpecS.imp hcl ?_
          rintro y s' ⟨rfl, rfl⟩
          simp [SW_skip, SW_region, SW_seq, SW_cond, condS, SW_block, SW_exit, SW_ret, SW_label, seqQ_normal, seqQ_ret, seqQ_exit, blockQ_normal, blockQ_ret, blockQ_exit, retQ, regS_nil, regS_cons, wantedS, stepS, pureS, evalO, putF, callS, contK_eq, contD_eq, binV, binD, intBin, shiftBin, strBin, lit, litC, convV, unV, lenV, indexAddrV, indexV, fieldAddrV, fieldV, extractV, sliceV, bnd, buildV, fillV, splice, partV, dcells, rowV, appV, datas, chunks, reps, V.data?, V.list?, V.cells?, V.one, eqAll, eqD, D.kind?, resV, resAll, resOne, Ef.sg, V.clean, V.cleans, hj2]
          refine ⟨by simp [maskF_eq, maskG, keptOk_eq, keptG, allUnder, V.under, V.unders, Sg.cut], m - 1, by omega, j + 1, T + 1, acc ++ [[(l[j].x, l[j].y, l[j].z)]], (l[j].x, l[j].y, l[j].z), by omega, by simp [hacc], by simp [hT], by omega, ⟨hmok.2.1, hmok.2.2.1, hmok.2.2.2.1⟩, by rw [hr1]; simp, by simp [maskF_eq, maskG, keptOk_eq, keptG, allUnder, V.under, V.unders, Sg.cut], by simp [Sg.cut, eachS, posV]⟩
      · rw [if_neg hv] at hdr
        have hr1 : runM p.1 p.2.1 p.2.2 l = (acc, Mv.valid pos.1 pos.2.1 pos.2.2 l[j]) := by rw [hrun, hdr]; simp
        have hvs := validS pos l[j] hpos hmok
        generalize Mv.valid pos.1 pos.2.1 pos.2.2 l[j] = e at *
        simp [SW_skip, SW_region, SW_seq, SW_cond, condS, SW_block, SW_exit, SW_ret, SW_label, seqQ_normal, seqQ_ret, seqQ_exit, blockQ_normal, blockQ_ret, blockQ_exit, retQ, regS_nil, regS_cons, wantedS, stepS, pureS, evalO, putF, callS, contK_eq, contD_eq, binV, binD, intBin, shiftBin, strBin, lit, litC, convV, unV, lenV, indexAddrV, indexV, fieldAddrV, fieldV, extractV, sliceV, bnd, buildV, fillV, splice, partV, dcells, rowV, appV, datas, chunks, reps, V.data?, V.list?, V.cells?, V.one, eqAll, eqD, D.kind?, resV, resAll, resOne, Ef.sg, V.clean, V.cleans, hlt, hj2, eachS, posV, encV]
        refine SpecS.by hvs (by simp [V.clean, V.cleans, posV, mvV]) ?_
        simp [SW_skip, SW_region, SW_seq, SW_cond, condS, SW_block, SW_exit, SW_ret, SW_label, seqQ_normal, seqQ_ret, seqQ_exit, blockQ_normal, blockQ_ret, blockQ_exit, retQ, regS_nil, regS_cons, wantedS, stepS, pureS, evalO, putF, callS, contK_eq, contD_eq, binV, binD, intBin, shiftBin, strBin, lit, litC, convV, unV, lenV, indexAddrV, indexV, fieldAddrV, fieldV, extractV, sliceV, bnd, buildV, fillV, splice, partV, dcells, rowV, appV, datas, chunks, reps, V.data?, V.list?, V.cells?, V.one, eqAll, eqD, D.kind?, resV, resAll, resOne, Ef.sg, V.clean, V.cleans, hv, eachR, hr1]
    · have hr1 : runM p.1 p.2.1 p.2.2 l = (acc, 0) := by rw [hrun, List.drop_of_length_le (by omega)]; simp [runM]
      have hle : ¬ (20000 : Int) < (T : Int) := by omega
      simp [SW_skip, SW_region, SW_seq, SW_cond, condS, SW_block, SW_exit, SW_ret, SW_label, seqQ_normal, seqQ_ret, seqQ_exit, blockQ_normal, blockQ_ret, blockQ_exit, retQ, regS_nil, regS_cons, wantedS, stepS, pureS, evalO, putF, callS, contK_eq, contD_eq, binV, binD, intBin, shiftBin, strBin, lit, litC, convV, unV, lenV, indexAddrV, indexV, fieldAddrV, fieldV, extractV, sliceV, bnd, buildV, fillV, splice, partV, dcells, rowV, appV, datas, chunks, reps, V.data?, V.list?, V.cells?, V.one, eqAll, eqD, D.kind?, resV, resAll, resOne, Ef.sg, V.clean, V.cleans, hlt, hle, eachS, posV, eachR, hr1, motOf]

/-- What Motions returns. -/
def motRes (tool : Int) (p : Int × Int × Int) (l : List Mv) : V :=
  if (runM p.1 p.2.1 p.2.2 l).2 = 0 then .tuple [.d (.list ((motOf tool p l).map encM)), .d (.int .i64 0)] else .tuple [.d (.list []), .d (.int .i64 (runM p.1 p.2.1 p.2.2 l).2)]

set_option maxRecDepth 100000 in
set_option maxHeartbeats 1000000 in
theorem motionsS (l : List Mv) (tool : Int) (p : Int × Int × Int) (hp : I64 p.1 ∧ I64 p.2.1 ∧ I64 p.2.2) (hok : ∀ m ∈ l, m.ok) (hl : l.length ≤ 1000000) (ht : (runM p.1 p.2.1 p.2.2 l).1.flatten.length ≤ 20000) :
    Spec gP 27 [.agg (posV p), .d (.list (l.map encV)), .d (.int .i64 tool)] (motRes tool p l) := by
  have he := eachMo l tool p hp hok hl ht
  refine spec_of Try.func27 rfl (by kernel_rfl) (by kernel_rfl) ?_
  simp [SW_skip, SW_region, SW_seq, SW_cond, condS, SW_block, SW_exit, SW_ret, SW_label, seqQ_normal, seqQ_ret, seqQ_exit, blockQ_normal, blockQ_ret, blockQ_exit, retQ, regS_nil, regS_cons, wantedS, stepS, pureS, evalO, putF, callS, contK_eq, contD_eq, binV, binD, intBin, shiftBin, strBin, lit, litC, convV, unV, lenV, indexAddrV, indexV, fieldAddrV, fieldV, extractV, sliceV, bnd, buildV, fillV, splice, partV, dcells, rowV, appV, datas, chunks, reps, V.data?, V.list?, V.cells?, V.one, eqAll, eqD, D.kind?, resV, resAll, resOne, Ef.sg, V.clean, V.cleans, Try.ntmps27, Try.results27, posV]
  simp only [posV] at he
  refine SpecS.imp he ?_
  rintro y s' ⟨rfl, h3⟩
  by_cases hz : (runM p.1 p.2.1 p.2.2 l).2 = 0
  · have h4 := h3 hz
    simp [SW_skip, SW_region, SW_seq, SW_cond, condS, SW_block, SW_exit, SW_ret, SW_label, seqQ_normal, seqQ_ret, seqQ_exit, blockQ_normal, blockQ_ret, blockQ_exit, retQ, regS_nil, regS_cons, wantedS, stepS, pureS, evalO, putF, callS, contK_eq, contD_eq, binV, binD, intBin, shiftBin, strBin, lit, litC, convV, unV, lenV, indexAddrV, indexV, fieldAddrV, fieldV, extractV, sliceV, bnd, buildV, fillV, splice, partV, dcells, rowV, appV, datas, chunks, reps, V.data?, V.list?, V.cells?, V.one, eqAll, eqD, D.kind?, resV, resAll, resOne, Ef.sg, V.clean, V.cleans, hz, h4, motRes]
  · simp [SW_skip, SW_region, SW_seq, SW_cond, condS, SW_block, SW_exit, SW_ret, SW_label, seqQ_normal, seqQ_ret, seqQ_exit, blockQ_normal, blockQ_ret, blockQ_exit, retQ, regS_nil, regS_cons, wantedS, stepS, pureS, evalO, putF, callS, contK_eq, contD_eq, binV, binD, intBin, shiftBin, strBin, lit, litC, convV, unV, lenV, indexAddrV, indexV, fieldAddrV, fieldV, extractV, sliceV, bnd, buildV, fillV, splice, partV, dcells, rowV, appV, datas, chunks, reps, V.data?, V.list?, V.cells?, V.one, eqAll, eqD, D.kind?, resV, resAll, resOne, Ef.sg, V.clean, V.cleans, hz, motRes]

end Go.Proofs.Ytjdjcjhdaedakaa
