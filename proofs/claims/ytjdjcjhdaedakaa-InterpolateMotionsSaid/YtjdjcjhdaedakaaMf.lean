/-
  The walk of the law InterpolateMotions, in the shadow.
-/
import Derived.Test.YtjdjcjhdaedakaaMe
namespace Go.Proofs.Ytjdjcjhdaedakaa
open Go.ChangeShapes Go.WideShapes Go.ChangeAt Go.RowKit Go.Deep
set_option linter.unusedSimpArgs false

def cellsF (w : World) (b o : Nat) (u : Value) : Prop := w.cell? ⟨b, o, none⟩ = some u

theorem rel_of_rd {w : World} {v : Value} {l : List Mv} (h : Rd w 7 v l.length (cells7 l)) (hc : ∀ A n c, v = .slice A n c → n ≤ c) : relD (cellsF w) (.list (l.map encV)) v := by
  obtain ⟨_, A, c, rfl, h2⟩ := h
  rcases Nat.eq_zero_or_pos l.length with h0 | h0
  · have : l = [] := List.eq_nil_of_length_eq_zero h0
    subst this
    exact .nil _ _
  · obtain ⟨b, off, rfl, hb, hcell⟩ := h2 h0
    have key := relD.list (F := cellsF w) (l.map encV) b off c 7 (fun i j => ((cells7 l)[i * 7 + j]?).getD Go.undef) (by simpa using h0) (by simpa using hc _ _ _ rfl)
      (fun i e he => by
        rw [List.getElem?_map] at he
        cases hm : l[i]? with
        | none => rw [hm] at he; cases he
        | some m => rw [hm] at he; simp at he; subst he; rfl)
      (fun i j e x he hx => by
        rw [List.getElem?_map] at he
        cases hm : l[i]? with
        | none => rw [hm] at he; cases he
        | some m =>
          rw [hm] at he; simp at he; subst he
          have hi := getElem_lt hm
          have hj := getElem_lt hx
          simp only [encV, List.length_cons, List.length_nil] at hj
          have hlt : i * 7 + j < (cells7 l).length := by rw [cells7_length]; omega
          have := hcell (i * 7 + j) _ (List.getElem?_eq_getElem hlt)
          rw [← Nat.add_assoc] at this
          rw [List.getElem?_eq_getElem hlt]
          exact this)
      (fun i j e x he hx => by
        rw [List.getElem?_map] at he
        cases hm : l[i]? with
        | none => rw [hm] at he; cases he
        | some m =>
          rw [hm] at he; simp at he; subst he
          have hi := getElem_lt hm
          have hj := getElem_lt hx
          simp only [encV, List.length_cons, List.length_nil] at hj
          obtain ⟨c1, c2, c3, c4, c5, c6, c7⟩ := cells7_at hi
          have e : l[i] = m := by rw [List.getElem?_eq_getElem hi] at hm; injection hm
          rw [e] at c1 c2 c3 c4 c5 c6 c7
          have : j = 0 ∨ j = 1 ∨ j = 2 ∨ j = 3 ∨ j = 4 ∨ j = 5 ∨ j = 6 := by omega
          rcases this with rfl | rfl | rfl | rfl | rfl | rfl | rfl
          · simp [encV] at hx; subst hx; rw [Nat.add_zero, c1]; exact .int _ _
          · simp [encV] at hx; subst hx; rw [c2]; exact .int _ _
          · simp [encV] at hx; subst hx; rw [c3]; exact .int _ _
          · simp [encV] at hx; subst hx; rw [c4]; exact .int _ _
          · simp [encV] at hx; subst hx; rw [c5]; exact .int _ _
          · simp [encV] at hx; subst hx; rw [c6]; exact .int _ _
          · simp [encV] at hx; subst hx; rw [c7]; exact .int _ _)
    simpa using key

theorem cap_moves {H : Type} {enc : TypeId × Value → H} {w : World} {v : Value} {d : DataW H} {p : List MemPlace} (h : DataW.Trod enc Try.prog w 0 (fun _ => true) true 37 v d p) : ∀ A n c, v = .slice A n c → n ≤ c := by
  rintro A n c rfl
  obtain ⟨fuel, hf⟩ := h
  rcases open_slice Try.underlying37 hf with ⟨hcs, _⟩ | ⟨a, len, cap, m, n', D, Pl, hcs, _, hl, hm, hmm, _, hi⟩
  · simp [Value.cells] at hcs
    obtain ⟨rfl, rfl, rfl⟩ := hcs
    omega
  · simp [Value.cells] at hcs
    obtain ⟨rfl, rfl, rfl⟩ := hcs
    exact hl

def lawI (p : Int × Int × Int) (l : List Mv) (lns : List (TypeId × Nat)) (M : List Mo) (m : Nat) (fr : Fr) (s : Sg) : Prop :=
  ∃ i : Nat, m + i = M.length ∧ fr = [.undef, .d (.list (l.map encV)), .undef, .ptr 0 0, .undef, .undef, .undef, .d (.list (M.map encM)), .d (.int .i64 0), .d (.list (M.map encM)), .undef, .ptr 1 0, .undef, .undef, .undef, .undef, .undef, .undef, .undef, .undef, .undef, .undef, .undef, .undef, .undef, .undef, .undef, .undef, .undef, .undef, .undef, .undef, .undef, .undef, .undef, .undef, .undef, .undef, .undef, .undef, .undef, .undef, .undef, .undef, .undef, .undef, .undef, .undef, .undef, .undef, .d (.int .i64 M.length), .d (.int .i64 i), .undef, .undef, .undef, .undef, .undef, .undef, .undef, .undef, .undef, .undef, .undef, .undef, .undef, .undef, .undef, .undef, .undef, .undef, .undef, .undef, .undef, .undef, .undef, .undef, .undef, .undef, .undef, .undef, .undef, .undef, .undef, .undef, .undef, .undef, .undef, .undef, .undef, .undef, .undef, .undef, .undef, .undef, .undef, .undef, .undef, .undef, .undef, .undef] ∧ s = ⟨[posV p, posV (atM p M i)], lns⟩

def lawE (p : Int × Int × Int) (l : List Mv) (lns : List (TypeId × Nat)) (e : Int) (_ : Nat) (fr : Fr) (s : Sg) : Prop :=
  fr = [.undef, .d (.list (l.map encV)), .undef, .ptr 0 0, .undef, .undef, .undef, .d (.list []), .d (.int .i64 e), .d (.list []), .undef, .ptr 1 0, .undef, .undef, .undef, .undef, .undef, .undef, .undef, .undef, .undef, .undef, .undef, .undef, .undef, .undef, .undef, .undef, .undef, .undef, .undef, .undef, .undef, .undef, .undef, .undef, .undef, .undef, .undef, .undef, .undef, .undef, .undef, .undef, .undef, .undef, .undef, .undef, .undef, .undef, .d (.int .i64 0), .d (.int .i64 0), .undef, .undef, .undef, .undef, .undef, .undef, .undef, .undef, .undef, .undef, .undef, .undef, .undef, .undef, .undef, .undef, .undef, .undef, .undef, .undef, .undef, .undef, .undef, .undef, .undef, .undef, .undef, .undef, .undef, .undef, .undef, .undef, .undef, .undef, .undef, .undef, .undef, .undef, .undef, .undef, .undef, .undef, .undef, .undef, .undef, .undef, .undef, .undef] ∧ s = ⟨[posV p, posV p], lns⟩

theorem motOf_len (tool : Int) (p : Int × Int × Int) (l : List Mv) : (motOf tool p l).length ≤ (runM p.1 p.2.1 p.2.2 l).1.flatten.length := by
  unfold motOf
  have := motM_len tool p (tags l 0 (runM p.1 p.2.1 p.2.2 l).1)
  rw [tags_len] at this; exact this

set_option maxRecDepth 100000 in
set_option maxHeartbeats 2000000 in
theorem lawMotionsS (l : List Mv) (tool : Int) (p : Int × Int × Int) (hp : I64 p.1 ∧ I64 p.2.1 ∧ I64 p.2.2) (hok : ∀ m ∈ l, m.ok) :
    Spec gP 10 [.agg (posV p), .d (.list (l.map encV)), .d (.int .i64 tool)] (.d (.bool true)) := by
  refine spec_of Try.func10 rfl (by kernel_rfl) (by kernel_rfl) ?_
  simp [SW_skip, SW_region, SW_seq, SW_cond, condS, SW_block, SW_exit, SW_ret, SW_label, seqQ_normal, seqQ_ret, seqQ_exit, blockQ_normal, blockQ_ret, blockQ_exit, retQ, regS_nil, regS_cons, wantedS, stepS, pureS, evalO, putF, callS, contK_eq, contD_eq, binV, binD, intBin, shiftBin, strBin, lit, litC, convV, unV, lenV, indexAddrV, indexV, fieldAddrV, fieldV, extractV, sliceV, bnd, buildV, fillV, splice, partV, dcells, rowV, appV, datas, chunks, reps, V.data?, V.list?, V.cells?, V.one, eqAll, eqD, D.kind?, resV, resAll, resOne, Ef.sg, V.clean, V.cleans, Try.ntmps10, Try.results10, posV]
  refine SpecS.by awakeS (by simp) ?_
  simp [SW_skip, SW_region, SW_seq, SW_cond, condS, SW_block, SW_exit, SW_ret, SW_label, seqQ_normal, seqQ_ret, seqQ_exit, blockQ_normal, blockQ_ret, blockQ_exit, retQ, regS_nil, regS_cons, wantedS, stepS, pureS, evalO, putF, callS, contK_eq, contD_eq, binV, binD, intBin, shiftBin, strBin, lit, litC, convV, unV, lenV, indexAddrV, indexV, fieldAddrV, fieldV, extractV, sliceV, bnd, buildV, fillV, splice, partV, dcells, rowV, appV, datas, chunks, reps, V.data?, V.list?, V.cells?, V.one, eqAll, eqD, D.kind?, resV, resAll, resOne, Ef.sg, V.clean, V.cleans]
  by_cases hlen : l.length ≤ 12
  · have hfs := fewS p l hp hok hlen
    by_cases hfew : fewM p.1 p.2.1 p.2.2 l = true
    · rw [hfew] at hfs
      have ht : (runM p.1 p.2.1 p.2.2 l).1.flatten.length ≤ 20000 := by have := run_few l p.1 p.2.1 p.2.2 hfew; omega
      have hM := motOf_len tool p l
      have hms := motionsS l tool p hp hok (by omega) ht
      have hrs := rmotionsS l tool p hp hok (by omega) ht
      have hes := rendS p l (by omega)
      have hch := chain_motM tool p (tags l 0 (runM p.1 p.2.1 p.2.2 l).1)
      have hae := atM_end tool p (tags l 0 (runM p.1 p.2.1 p.2.2 l).1)
      have hlr := lastP_run l l p.1 p.2.1 p.2.2 0
      refine SpecS.by hfs (by simp [V.clean, V.cleans, posV]) ?_
      by_cases hz : (runM p.1 p.2.1 p.2.2 l).2 = 0
      · have hlr := hlr hz
        rw [show ((p.1, p.2.1, p.2.2) : Int × Int × Int) = p from rfl] at hlr
        rw [hlr] at hae
        have hmr : motRes tool p l = .tuple [.d (.list ((motOf tool p l).map encM)), .d (.int .i64 0)] := by unfold motRes; rw [if_pos hz]
        rw [hmr] at hms hrs
        change Chain p (motOf tool p l) at hch
        change atM p (motOf tool p l) (motOf tool p l).length = _ at hae
        have hM2 : (motOf tool p l).length ≤ 20000 := by omega
        generalize motOf tool p l = M at *
        generalize endM p.1 p.2.1 p.2.2 l = q at *
        rcases Nat.eq_zero_or_pos l.length with hl0 | hl0
        · have : l = [] := List.eq_nil_of_length_eq_zero hl0
          subst this
          simp [SW_skip, SW_region, SW_seq, SW_cond, condS, SW_block, SW_exit, SW_ret, SW_label, seqQ_normal, seqQ_ret, seqQ_exit, blockQ_normal, blockQ_ret, blockQ_exit, retQ, regS_nil, regS_cons, wantedS, stepS, pureS, evalO, putF, callS, contK_eq, contD_eq, binV, binD, intBin, shiftBin, strBin, lit, litC, convV, unV, lenV, indexAddrV, indexV, fieldAddrV, fieldV, extractV, sliceV, bnd, buildV, fillV, splice, partV, dcells, rowV, appV, datas, chunks, reps, V.data?, V.list?, V.cells?, V.one, eqAll, eqD, D.kind?, resV, resAll, resOne, Ef.sg, V.clean, V.cleans]
          refine Spec.by hms (by simp [posV]) ?_
          simp [SW_skip, SW_region, SW_seq, SW_cond, condS, SW_block, SW_exit, SW_ret, SW_label, seqQ_normal, seqQ_ret, seqQ_exit, blockQ_normal, blockQ_ret, blockQ_exit, retQ, regS_nil, regS_cons, wantedS, stepS, pureS, evalO, putF, callS, contK_eq, contD_eq, binV, binD, intBin, shiftBin, strBin, lit, litC, convV, unV, lenV, indexAddrV, indexV, fieldAddrV, fieldV, extractV, sliceV, bnd, buildV, fillV, splice, partV, dcells, rowV, appV, datas, chunks, reps, V.data?, V.list?, V.cells?, V.one, eqAll, eqD, D.kind?, resV, resAll, resOne, Ef.sg, V.clean, V.cleans]
          refine SpecS.by hrs (by simp [V.clean, V.cleans, posV]) ?_
          simp [SW_skip, SW_region, SW_seq, SW_cond, condS, SW_block, SW_exit, SW_ret, SW_label, seqQ_normal, seqQ_ret, seqQ_exit, blockQ_normal, blockQ_ret, blockQ_exit, retQ, regS_nil, regS_cons, wantedS, stepS, pureS, evalO, putF, callS, contK_eq, contD_eq, binV, binD, intBin, shiftBin, strBin, lit, litC, convV, unV, lenV, indexAddrV, indexV, fieldAddrV, fieldV, extractV, sliceV, bnd, buildV, fillV, splice, partV, dcells, rowV, appV, datas, chunks, reps, V.data?, V.list?, V.cells?, V.one, eqAll, eqD, D.kind?, resV, resAll, resOne, Ef.sg, V.clean, V.cleans]
          refine SW_loop [] [1, 3, 7, 8, 9, 11, 50, 51] (lawI p [] [] M) M.length rfl ?_ ?_
          · exact ⟨0, by omega, by simp [maskF_eq, maskG, keptOk_eq, keptG, allUnder, V.under, V.unders, Sg.cut], by simp [atM_zero, posV]⟩
          · rintro m fr1 s1 ⟨i, hi, rfl, rfl⟩
            refine ⟨rfl, rfl, ?_⟩
            by_cases hlt : i < M.length
            · have hi2 : i < 9223372036854775807 := by omega
              obtain ⟨h1, h2⟩ := hch.at i hlt
              have h3 := atM_succ p M i hlt
              rw [← h1]
              have hne : (M[i].fx == M[i].tx && (M[i].fy == M[i].ty && M[i].fz == M[i].tz)) = false := by
                rw [Bool.eq_false_iff]
                intro h
                simp only [Bool.and_eq_true, beq_iff_eq] at h
                exact h2 (by rw [h.1, h.2.1, h.2.2])
              simp [SW_skip, SW_region, SW_seq, SW_cond, condS, SW_block, SW_exit, SW_ret, SW_label, seqQ_normal, seqQ_ret, seqQ_exit, blockQ_normal, blockQ_ret, blockQ_exit, retQ, regS_nil, regS_cons, wantedS, stepS, pureS, evalO, putF, callS, contK_eq, contD_eq, binV, binD, intBin, shiftBin, strBin, lit, litC, convV, unV, lenV, indexAddrV, indexV, fieldAddrV, fieldV, extractV, sliceV, bnd, buildV, fillV, splice, partV, dcells, rowV, appV, datas, chunks, reps, V.data?, V.list?, V.cells?, V.one, eqAll, eqD, D.kind?, resV, resAll, resOne, Ef.sg, V.clean, V.cleans, posV, hlt, hi2, encM, hne]
              refine ⟨by simp [maskF_eq, maskG, keptOk_eq, keptG, allUnder, V.under, V.unders, Sg.cut], m - 1, by omega, i + 1, by omega, by simp [maskF_eq, maskG, keptOk_eq, keptG, allUnder, V.under, V.unders, Sg.cut], by simp [Sg.cut, h3, posV]⟩
            · have hiM : i = M.length := by omega
              subst hiM
              simp [SW_skip, SW_region, SW_seq, SW_cond, condS, SW_block, SW_exit, SW_ret, SW_label, seqQ_normal, seqQ_ret, seqQ_exit, blockQ_normal, blockQ_ret, blockQ_exit, retQ, regS_nil, regS_cons, wantedS, stepS, pureS, evalO, putF, callS, contK_eq, contD_eq, binV, binD, intBin, shiftBin, strBin, lit, litC, convV, unV, lenV, indexAddrV, indexV, fieldAddrV, fieldV, extractV, sliceV, bnd, buildV, fillV, splice, partV, dcells, rowV, appV, datas, chunks, reps, V.data?, V.list?, V.cells?, V.one, eqAll, eqD, D.kind?, resV, resAll, resOne, Ef.sg, V.clean, V.cleans, hae, posV]
              refine Spec.by hes (by simp [posV]) ?_
              simp [SW_skip, SW_region, SW_seq, SW_cond, condS, SW_block, SW_exit, SW_ret, SW_label, seqQ_normal, seqQ_ret, seqQ_exit, blockQ_normal, blockQ_ret, blockQ_exit, retQ, regS_nil, regS_cons, wantedS, stepS, pureS, evalO, putF, callS, contK_eq, contD_eq, binV, binD, intBin, shiftBin, strBin, lit, litC, convV, unV, lenV, indexAddrV, indexV, fieldAddrV, fieldV, extractV, sliceV, bnd, buildV, fillV, splice, partV, dcells, rowV, appV, datas, chunks, reps, V.data?, V.list?, V.cells?, V.one, eqAll, eqD, D.kind?, resV, resAll, resOne, Ef.sg, V.clean, V.cleans, posV]
        · have hok1 : okLen l.length = true := okLen_of (by omega)
          simp [SW_skip, SW_region, SW_seq, SW_cond, condS, SW_block, SW_exit, SW_ret, SW_label, seqQ_normal, seqQ_ret, seqQ_exit, blockQ_normal, blockQ_ret, blockQ_exit, retQ, regS_nil, regS_cons, wantedS, stepS, pureS, evalO, putF, callS, contK_eq, contD_eq, binV, binD, intBin, shiftBin, strBin, lit, litC, convV, unV, lenV, indexAddrV, indexV, fieldAddrV, fieldV, extractV, sliceV, bnd, buildV, fillV, splice, partV, dcells, rowV, appV, datas, chunks, reps, V.data?, V.list?, V.cells?, V.one, eqAll, eqD, D.kind?, resV, resAll, resOne, Ef.sg, V.clean, V.cleans, hl0, hok1]
          refine Spec.by hms (by simp [posV]) ?_
          simp [SW_skip, SW_region, SW_seq, SW_cond, condS, SW_block, SW_exit, SW_ret, SW_label, seqQ_normal, seqQ_ret, seqQ_exit, blockQ_normal, blockQ_ret, blockQ_exit, retQ, regS_nil, regS_cons, wantedS, stepS, pureS, evalO, putF, callS, contK_eq, contD_eq, binV, binD, intBin, shiftBin, strBin, lit, litC, convV, unV, lenV, indexAddrV, indexV, fieldAddrV, fieldV, extractV, sliceV, bnd, buildV, fillV, splice, partV, dcells, rowV, appV, datas, chunks, reps, V.data?, V.list?, V.cells?, V.one, eqAll, eqD, D.kind?, resV, resAll, resOne, Ef.sg, V.clean, V.cleans]
          refine SpecS.by hrs (by simp [V.clean, V.cleans, posV]) ?_
          simp [SW_skip, SW_region, SW_seq, SW_cond, condS, SW_block, SW_exit, SW_ret, SW_label, seqQ_normal, seqQ_ret, seqQ_exit, blockQ_normal, blockQ_ret, blockQ_exit, retQ, regS_nil, regS_cons, wantedS, stepS, pureS, evalO, putF, callS, contK_eq, contD_eq, binV, binD, intBin, shiftBin, strBin, lit, litC, convV, unV, lenV, indexAddrV, indexV, fieldAddrV, fieldV, extractV, sliceV, bnd, buildV, fillV, splice, partV, dcells, rowV, appV, datas, chunks, reps, V.data?, V.list?, V.cells?, V.one, eqAll, eqD, D.kind?, resV, resAll, resOne, Ef.sg, V.clean, V.cleans]
          refine SW_loop [] [1, 3, 7, 8, 9, 11, 50, 51] (lawI p l [(27, l.length)] M) M.length rfl ?_ ?_
          · exact ⟨0, by omega, by simp [maskF_eq, maskG, keptOk_eq, keptG, allUnder, V.under, V.unders, Sg.cut], by simp [atM_zero, posV]⟩
          · rintro m fr1 s1 ⟨i, hi, rfl, rfl⟩
            refine ⟨rfl, rfl, ?_⟩
            by_cases hlt : i < M.length
            · have hi2 : i < 9223372036854775807 := by omega
              obtain ⟨h1, h2⟩ := hch.at i hlt
              have h3 := atM_succ p M i hlt
              rw [← h1]
              have hne : (M[i].fx == M[i].tx && (M[i].fy == M[i].ty && M[i].fz == M[i].tz)) = false := by
                rw [Bool.eq_false_iff]
                intro h
                simp only [Bool.and_eq_true, beq_iff_eq] at h
                exact h2 (by rw [h.1, h.2.1, h.2.2])
              simp [SW_skip, SW_region, SW_seq, SW_cond, condS, SW_block, SW_exit, SW_ret, SW_label, seqQ_normal, seqQ_ret, seqQ_exit, blockQ_normal, blockQ_ret, blockQ_exit, retQ, regS_nil, regS_cons, wantedS, stepS, pureS, evalO, putF, callS, contK_eq, contD_eq, binV, binD, intBin, shiftBin, strBin, lit, litC, convV, unV, lenV, indexAddrV, indexV, fieldAddrV, fieldV, extractV, sliceV, bnd, buildV, fillV, splice, partV, dcells, rowV, appV, datas, chunks, reps, V.data?, V.list?, V.cells?, V.one, eqAll, eqD, D.kind?, resV, resAll, resOne, Ef.sg, V.clean, V.cleans, posV, hlt, hi2, encM, hne]
              refine ⟨by simp [maskF_eq, maskG, keptOk_eq, keptG, allUnder, V.under, V.unders, Sg.cut], m - 1, by omega, i + 1, by omega, by simp [maskF_eq, maskG, keptOk_eq, keptG, allUnder, V.under, V.unders, Sg.cut], by simp [Sg.cut, h3, posV]⟩
            · have hiM : i = M.length := by omega
              subst hiM
              simp [SW_skip, SW_region, SW_seq, SW_cond, condS, SW_block, SW_exit, SW_ret, SW_label, seqQ_normal, seqQ_ret, seqQ_exit, blockQ_normal, blockQ_ret, blockQ_exit, retQ, regS_nil, regS_cons, wantedS, stepS, pureS, evalO, putF, callS, contK_eq, contD_eq, binV, binD, intBin, shiftBin, strBin, lit, litC, convV, unV, lenV, indexAddrV, indexV, fieldAddrV, fieldV, extractV, sliceV, bnd, buildV, fillV, splice, partV, dcells, rowV, appV, datas, chunks, reps, V.data?, V.list?, V.cells?, V.one, eqAll, eqD, D.kind?, resV, resAll, resOne, Ef.sg, V.clean, V.cleans, hae, posV]
              refine Spec.by hes (by simp [posV]) ?_
              simp [SW_skip, SW_region, SW_seq, SW_cond, condS, SW_block, SW_exit, SW_ret, SW_label, seqQ_normal, seqQ_ret, seqQ_exit, blockQ_normal, blockQ_ret, blockQ_exit, retQ, regS_nil, regS_cons, wantedS, stepS, pureS, evalO, putF, callS, contK_eq, contD_eq, binV, binD, intBin, shiftBin, strBin, lit, litC, convV, unV, lenV, indexAddrV, indexV, fieldAddrV, fieldV, extractV, sliceV, bnd, buildV, fillV, splice, partV, dcells, rowV, appV, datas, chunks, reps, V.data?, V.list?, V.cells?, V.one, eqAll, eqD, D.kind?, resV, resAll, resOne, Ef.sg, V.clean, V.cleans, posV]
      · have hmr : motRes tool p l = .tuple [.d (.list []), .d (.int .i64 (runM p.1 p.2.1 p.2.2 l).2)] := by unfold motRes; rw [if_neg hz]
        rw [hmr] at hms hrs
        generalize (runM p.1 p.2.1 p.2.2 l).2 = e at *
        rcases Nat.eq_zero_or_pos l.length with hl0 | hl0
        · have : l = [] := List.eq_nil_of_length_eq_zero hl0
          subst this
          simp [SW_skip, SW_region, SW_seq, SW_cond, condS, SW_block, SW_exit, SW_ret, SW_label, seqQ_normal, seqQ_ret, seqQ_exit, blockQ_normal, blockQ_ret, blockQ_exit, retQ, regS_nil, regS_cons, wantedS, stepS, pureS, evalO, putF, callS, contK_eq, contD_eq, binV, binD, intBin, shiftBin, strBin, lit, litC, convV, unV, lenV, indexAddrV, indexV, fieldAddrV, fieldV, extractV, sliceV, bnd, buildV, fillV, splice, partV, dcells, rowV, appV, datas, chunks, reps, V.data?, V.list?, V.cells?, V.one, eqAll, eqD, D.kind?, resV, resAll, resOne, Ef.sg, V.clean, V.cleans]
          refine Spec.by hms (by simp [posV]) ?_
          simp [SW_skip, SW_region, SW_seq, SW_cond, condS, SW_block, SW_exit, SW_ret, SW_label, seqQ_normal, seqQ_ret, seqQ_exit, blockQ_normal, blockQ_ret, blockQ_exit, retQ, regS_nil, regS_cons, wantedS, stepS, pureS, evalO, putF, callS, contK_eq, contD_eq, binV, binD, intBin, shiftBin, strBin, lit, litC, convV, unV, lenV, indexAddrV, indexV, fieldAddrV, fieldV, extractV, sliceV, bnd, buildV, fillV, splice, partV, dcells, rowV, appV, datas, chunks, reps, V.data?, V.list?, V.cells?, V.one, eqAll, eqD, D.kind?, resV, resAll, resOne, Ef.sg, V.clean, V.cleans]
          refine SpecS.by hrs (by simp [V.clean, V.cleans, posV]) ?_
          simp [SW_skip, SW_region, SW_seq, SW_cond, condS, SW_block, SW_exit, SW_ret, SW_label, seqQ_normal, seqQ_ret, seqQ_exit, blockQ_normal, blockQ_ret, blockQ_exit, retQ, regS_nil, regS_cons, wantedS, stepS, pureS, evalO, putF, callS, contK_eq, contD_eq, binV, binD, intBin, shiftBin, strBin, lit, litC, convV, unV, lenV, indexAddrV, indexV, fieldAddrV, fieldV, extractV, sliceV, bnd, buildV, fillV, splice, partV, dcells, rowV, appV, datas, chunks, reps, V.data?, V.list?, V.cells?, V.one, eqAll, eqD, D.kind?, resV, resAll, resOne, Ef.sg, V.clean, V.cleans]
          refine SW_loop [] [1, 3, 7, 8, 9, 11, 50, 51] (lawE p [] [] e) 0 rfl ?_ ?_
          · exact ⟨by simp [maskF_eq, maskG, keptOk_eq, keptG, allUnder, V.under, V.unders, Sg.cut], by simp [posV]⟩
          · rintro m fr1 s1 ⟨rfl, rfl⟩
            refine ⟨rfl, rfl, ?_⟩
            simp [SW_skip, SW_region, SW_seq, SW_cond, condS, SW_block, SW_exit, SW_ret, SW_label, seqQ_normal, seqQ_ret, seqQ_exit, blockQ_normal, blockQ_ret, blockQ_exit, retQ, regS_nil, regS_cons, wantedS, stepS, pureS, evalO, putF, callS, contK_eq, contD_eq, binV, binD, intBin, shiftBin, strBin, lit, litC, convV, unV, lenV, indexAddrV, indexV, fieldAddrV, fieldV, extractV, sliceV, bnd, buildV, fillV, splice, partV, dcells, rowV, appV, datas, chunks, reps, V.data?, V.list?, V.cells?, V.one, eqAll, eqD, D.kind?, resV, resAll, resOne, Ef.sg, V.clean, V.cleans, hz]
        · have hok1 : okLen l.length = true := okLen_of (by omega)
          simp [SW_skip, SW_region, SW_seq, SW_cond, condS, SW_block, SW_exit, SW_ret, SW_label, seqQ_normal, seqQ_ret, seqQ_exit, blockQ_normal, blockQ_ret, blockQ_exit, retQ, regS_nil, regS_cons, wantedS, stepS, pureS, evalO, putF, callS, contK_eq, contD_eq, binV, binD, intBin, shiftBin, strBin, lit, litC, convV, unV, lenV, indexAddrV, indexV, fieldAddrV, fieldV, extractV, sliceV, bnd, buildV, fillV, splice, partV, dcells, rowV, appV, datas, chunks, reps, V.data?, V.list?, V.cells?, V.one, eqAll, eqD, D.kind?, resV, resAll, resOne, Ef.sg, V.clean, V.cleans, hl0, hok1]
          refine Spec.by hms (by simp [posV]) ?_
          simp [SW_skip, SW_region, SW_seq, SW_cond, condS, SW_block, SW_exit, SW_ret, SW_label, seqQ_normal, seqQ_ret, seqQ_exit, blockQ_normal, blockQ_ret, blockQ_exit, retQ, regS_nil, regS_cons, wantedS, stepS, pureS, evalO, putF, callS, contK_eq, contD_eq, binV, binD, intBin, shiftBin, strBin, lit, litC, convV, unV, lenV, indexAddrV, indexV, fieldAddrV, fieldV, extractV, sliceV, bnd, buildV, fillV, splice, partV, dcells, rowV, appV, datas, chunks, reps, V.data?, V.list?, V.cells?, V.one, eqAll, eqD, D.kind?, resV, resAll, resOne, Ef.sg, V.clean, V.cleans]
          refine SpecS.by hrs (by simp [V.clean, V.cleans, posV]) ?_
          simp [SW_skip, SW_region, SW_seq, SW_cond, condS, SW_block, SW_exit, SW_ret, SW_label, seqQ_normal, seqQ_ret, seqQ_exit, blockQ_normal, blockQ_ret, blockQ_exit, retQ, regS_nil, regS_cons, wantedS, stepS, pureS, evalO, putF, callS, contK_eq, contD_eq, binV, binD, intBin, shiftBin, strBin, lit, litC, convV, unV, lenV, indexAddrV, indexV, fieldAddrV, fieldV, extractV, sliceV, bnd, buildV, fillV, splice, partV, dcells, rowV, appV, datas, chunks, reps, V.data?, V.list?, V.cells?, V.one, eqAll, eqD, D.kind?, resV, resAll, resOne, Ef.sg, V.clean, V.cleans]
          refine SW_loop [] [1, 3, 7, 8, 9, 11, 50, 51] (lawE p l [(27, l.length)] e) 0 rfl ?_ ?_
          · exact ⟨by simp [maskF_eq, maskG, keptOk_eq, keptG, allUnder, V.under, V.unders, Sg.cut], by simp [posV]⟩
          · rintro m fr1 s1 ⟨rfl, rfl⟩
            refine ⟨rfl, rfl, ?_⟩
            simp [SW_skip, SW_region, SW_seq, SW_cond, condS, SW_block, SW_exit, SW_ret, SW_label, seqQ_normal, seqQ_ret, seqQ_exit, blockQ_normal, blockQ_ret, blockQ_exit, retQ, regS_nil, regS_cons, wantedS, stepS, pureS, evalO, putF, callS, contK_eq, contD_eq, binV, binD, intBin, shiftBin, strBin, lit, litC, convV, unV, lenV, indexAddrV, indexV, fieldAddrV, fieldV, extractV, sliceV, bnd, buildV, fillV, splice, partV, dcells, rowV, appV, datas, chunks, reps, V.data?, V.list?, V.cells?, V.one, eqAll, eqD, D.kind?, resV, resAll, resOne, Ef.sg, V.clean, V.cleans, hz]
    · have hfew' : fewM p.1 p.2.1 p.2.2 l = false := by simpa using hfew
      rw [hfew'] at hfs
      refine SpecS.by hfs (by simp [V.clean, V.cleans, posV]) ?_
      simp [SW_skip, SW_region, SW_seq, SW_cond, condS, SW_block, SW_exit, SW_ret, SW_label, seqQ_normal, seqQ_ret, seqQ_exit, blockQ_normal, blockQ_ret, blockQ_exit, retQ, regS_nil, regS_cons, wantedS, stepS, pureS, evalO, putF, callS, contK_eq, contD_eq, binV, binD, intBin, shiftBin, strBin, lit, litC, convV, unV, lenV, indexAddrV, indexV, fieldAddrV, fieldV, extractV, sliceV, bnd, buildV, fillV, splice, partV, dcells, rowV, appV, datas, chunks, reps, V.data?, V.list?, V.cells?, V.one, eqAll, eqD, D.kind?, resV, resAll, resOne, Ef.sg, V.clean, V.cleans]
      refine SpecS.by awakeS (by simp) ?_
      simp [SW_skip, SW_region, SW_seq, SW_cond, condS, SW_block, SW_exit, SW_ret, SW_label, seqQ_normal, seqQ_ret, seqQ_exit, blockQ_normal, blockQ_ret, blockQ_exit, retQ, regS_nil, regS_cons, wantedS, stepS, pureS, evalO, putF, callS, contK_eq, contD_eq, binV, binD, intBin, shiftBin, strBin, lit, litC, convV, unV, lenV, indexAddrV, indexV, fieldAddrV, fieldV, extractV, sliceV, bnd, buildV, fillV, splice, partV, dcells, rowV, appV, datas, chunks, reps, V.data?, V.list?, V.cells?, V.one, eqAll, eqD, D.kind?, resV, resAll, resOne, Ef.sg, V.clean, V.cleans]
  · refine SpecS.by (fewmanyS p l (by omega)) (by simp [V.clean, V.cleans, posV]) ?_
    simp [SW_skip, SW_region, SW_seq, SW_cond, condS, SW_block, SW_exit, SW_ret, SW_label, seqQ_normal, seqQ_ret, seqQ_exit, blockQ_normal, blockQ_ret, blockQ_exit, retQ, regS_nil, regS_cons, wantedS, stepS, pureS, evalO, putF, callS, contK_eq, contD_eq, binV, binD, intBin, shiftBin, strBin, lit, litC, convV, unV, lenV, indexAddrV, indexV, fieldAddrV, fieldV, extractV, sliceV, bnd, buildV, fillV, splice, partV, dcells, rowV, appV, datas, chunks, reps, V.data?, V.list?, V.cells?, V.one, eqAll, eqD, D.kind?, resV, resAll, resOne, Ef.sg, V.clean, V.cleans]
    refine SpecS.by awakeS (by simp) ?_
    simp [SW_skip, SW_region, SW_seq, SW_cond, condS, SW_block, SW_exit, SW_ret, SW_label, seqQ_normal, seqQ_ret, seqQ_exit, blockQ_normal, blockQ_ret, blockQ_exit, retQ, regS_nil, regS_cons, wantedS, stepS, pureS, evalO, putF, callS, contK_eq, contD_eq, binV, binD, intBin, shiftBin, strBin, lit, litC, convV, unV, lenV, indexAddrV, indexV, fieldAddrV, fieldV, extractV, sliceV, bnd, buildV, fillV, splice, partV, dcells, rowV, appV, datas, chunks, reps, V.data?, V.list?, V.cells?, V.one, eqAll, eqD, D.kind?, resV, resAll, resOne, Ef.sg, V.clean, V.cleans]

theorem lawMotions_any (x y z : Int) (v : Value) (l : List Mv) (tool : Int) (w : World) (hx : I64 x) (hy : I64 y) (hz : I64 z) (hrd : Rd w 7 v l.length (cells7 l)) (hc : ∀ A n c, v = .slice A n c → n ≤ c) (hok : ∀ m ∈ l, m.ok) :
    Calls Try.prog 10 #[.agg #[.int .i64 x, .int .i64 y, .int .i64 z], v, .int .i64 tool] w fun e w' => e = .returned (.bool true) ∧ Kp w w' := by
  have h := (lawMotionsS l tool (x, y, z) ⟨hx, hy, hz⟩ hok).2 w (cellsF w) [.agg #[.int .i64 x, .int .i64 y, .int .i64 z], v, .int .i64 tool] (fun b o u q => ⟨cell_lt q, q⟩)
    (rels_cons (.agg _ [_, _, _] rfl (rels_cons (.d (.int _ _)) (rels_cons (.d (.int _ _)) (rels_cons (.d (.int _ _)) (rels_nil _)))).2) (rels_cons (.d (rel_of_rd hrd hc)) (rels_cons (.d (.int _ _)) (rels_nil _))))
  refine h.mono ?_
  rintro e w' ⟨u, rfl, hk, hu⟩
  exact ⟨by rw [inv_bool hu], hk⟩

end Go.Proofs.Ytjdjcjhdaedakaa
