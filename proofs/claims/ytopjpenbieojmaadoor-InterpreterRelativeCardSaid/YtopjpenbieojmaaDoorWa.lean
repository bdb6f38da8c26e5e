import Derived.Test.YtopjpenbieojmaaDoorVz
namespace Go.Proofs.YtopjpenbieojmaaDoor
open Go.RowKit
set_option linter.unusedVariables false
set_option linter.unusedSimpArgs false
def failP (e : Int) : List ApiMotion × ModalState × CycleCycle × Int := ([], zS, zC, e)
def takesP (b : ApiBlock) : Prop := validP b ∧ goodW [] b.Words = true ∧ b.Words.all knW = true
def numP (s : ModalState) : Int := if s.Length = 43000 then IntKind.i64.wrap (Int.tdiv s.Offset 1000) else 0
def workV (t : TableTable) (w n : Int) (q : ApiPos) : ApiPos × Int := (tb_Work t w n q).getD (⟨0, 0, 0⟩, 1)
theorem workV_eq {t : TableTable} (ht : t.Lengths.length ≤ 1000) (w n : Int) (q : ApiPos) : tb_Work t w n q = some (workV t w n q) := by
 obtain ⟨e, h, _⟩ := tb_Work_tot t w n q ht
 unfold workV; rw [h]; rfl
theorem workV_in {t : TableTable} (ht : t.Lengths.length ≤ 1000) (w n : Int) (q : ApiPos) (h0 : (workV t w n q).2 = 0) : inR (workV t w n q).1 := by
 obtain ⟨e, h, h2⟩ := tb_Work_tot t w n q ht
 have := workV_eq ht w n q
 rw [h] at this
 injection this with this
 rw [← this] at h0 ⊢
 exact h2 h0
def toolP (s : ModalState) : Int := IntKind.i64.wrap (Int.tdiv s.Tool 1000)
def moveP (s : ModalState) (c : CycleCycle) (b : ApiBlock) (t : TableTable) (p : ApiPos) : List ApiMotion × ModalState × CycleCycle × Int :=
 if ((hasW b [73, 74] && (s.Motion != 2000) && (s.Motion != 3000)) || (hasW b [81, 82] && !(cycB s.Motion))) = true then failP 1
 else if ((s.Motion == 80000) || ((s.Motion != 0) && (decide (s.Feed ≤ 0)))) = true then failP 13
 else if (workV t s.Work (numP s) p).2 ≠ 0 then failP (workV t s.Work (numP s) p).2
 else if (posV s c b (workV t s.Work (numP s) p).1).2.2 ≠ 0 then failP (posV s c b (workV t s.Work (numP s) p).1).2.2
 else match runM t s.Work (numP s) (toolP s) 0 (posV s c b (workV t s.Work (numP s) p).1).1 ([], p) with
  | .ret e => failP e
  | .go u => (u.1, s, (posV s c b (workV t s.Work (numP s) p).1).2.1, 0)
open Classical in
noncomputable def stepP (s : ModalState) (c : CycleCycle) (b : ApiBlock) (t : TableTable) (p : ApiPos) : List ApiMotion × ModalState × CycleCycle × Int :=
  if takesP b then
    (if hasW b [88, 89, 90, 73, 74, 81, 82] = true then moveP (b.Words.foldl putW s) (if cycB (b.Words.foldl putW s).Motion = true then c else zC) b t p
     else ([], b.Words.foldl putW s, if cycB (b.Words.foldl putW s).Motion = true then c else zC, 0))
  else failP 1
theorem inp_Step_eq {s : ModalState} {c : CycleCycle} {b : ApiBlock} {t : TableTable} {p : ApiPos} (hb : okS b) (ht : t.Lengths.length ≤ 1000) (hF : i64P s.Feed) (hchk : inp_checked t p = some 0) :
    inp_Step s c b t p = some (stepP s c b t p) := by
  obtain ⟨hu, hl, hc⟩ := hb
  have hok : okB b := ⟨hu, by omega⟩
  obtain ⟨ew, hbk, hew⟩ := bk_Valid_vp b hl hc
  have hbad : (bindO (bk_Valid b) fun (y2 : Int) => if (y2 != 0) = true then some true else bindO (md_Check b) fun (y3 : Int) => if (y3 != 0) = true then some true else bindO (inp_known b) fun (y4 : Bool) => some (!y4)) = some (!(decide (ew = 0) && (goodW [] b.Words && b.Words.all knW))) := by
    rw [hbk, bindO_s]
    by_cases q : ew = 0
    · rw [if_neg (by simpa using q), decide_eq_true q, Bool.true_and, md_Check_eq b hu (by omega), bindO_s]
      cases goodW [] b.Words with
      | false => rfl
      | true => rw [if_pos rfl, if_neg (by decide), inp_known_eq b hl, bindO_s, Bool.true_and]
    · rw [if_pos (by simpa using q), decide_eq_false q]; rfl
  unfold inp_Step
  simp only [unit_s]
  rw [hchk, bindO_s, if_neg (show ¬ (((0 : Int) != 0) = true) by decide), hbad, bindO_s]
  unfold stepP
  by_cases hv : takesP b
  · rw [if_pos hv]
    obtain ⟨v1, v2, v3⟩ := hv
    have e0 : ew = 0 := by
      rcases hew with ⟨z, _⟩ | ⟨_, z⟩
      · exact z
      · exact absurd v1 z
    rw [e0, v2, v3, decide_eq_true rfl, if_neg (show ¬ ((!(true && (true && true))) = true) by decide), md_Apply_eq s b hok, bindO_s, if_pos v2]
    have hF1 := fold_feed b.Words s hF (fun w hw => by
      have := v1.2.2.1 w hw
      unfold okW at this
      unfold i64P; omega)
    generalize b.Words.foldl putW s = s1 at hF1
    dsimp only
    rw [if_neg (show ¬ (((0 : Int) != 0) = true) by decide)]
    have cI : ∀ k, inp_cycles k = some (cycB k) := fun _ => rfl
    simp only [cI, bindO_s]
    obtain ⟨c1, hc1⟩ : ∃ c1, (if cycB s1.Motion = true then c else zC) = c1 := ⟨_, rfl⟩
    have i1 : (if (!cycB s1.Motion) = true then some (CycleCycle.mk 0 0 0 0 0 0 false) else some (CycleCycle.mk c.Code c.R c.Z c.Q c.Rate c.Initial c.High)) = some c1 := by
      rw [← hc1]
      cases cycB s1.Motion <;> rfl
    have a1 : inp_has b [88, 89, 90, 73, 74, 81, 82] = some (hasW b [88, 89, 90, 73, 74, 81, 82]) := inp_has_eq b _ hl (by decide)
    have a2 : inp_has b [73, 74] = some (hasW b [73, 74]) := inp_has_eq b _ hl (by decide)
    have a3 : inp_has b [81, 82] = some (hasW b [81, 82]) := inp_has_eq b _ hl (by decide)
    rw [i1, bindO_s, hc1]
    simp only [a1, a2, a3, bindO_s]
    cases hXYZ : hasW b [88, 89, 90, 73, 74, 81, 82] with
    | false => rfl
    | true =>
      rw [if_neg (show ¬ ((!true) = true) by decide), if_pos rfl, ijqr, bindO_s]
      unfold moveP
      cases hbad2 : ((hasW b [73, 74] && (s1.Motion != 2000) && (s1.Motion != 3000)) || (hasW b [81, 82] && !(cycB s1.Motion))) with
      | true => rfl
      | false =>
        rw [if_neg (show ¬ (false = true) by decide), if_neg (show ¬ (false = true) by decide)]
        cases hst : ((s1.Motion == 80000) || ((s1.Motion != 0) && (decide (s1.Feed ≤ 0)))) with
        | true => rfl
        | false =>
          rw [if_neg (show ¬ (false = true) by decide), if_neg (show ¬ (false = true) by decide)]
          have hn : (if (s1.Length == 43000) = true then some (IntKind.i64.wrap (Int.tdiv s1.Offset 1000)) else some 0) = some (numP s1) := by
            unfold numP
            by_cases q : s1.Length = 43000
            · rw [if_pos (by simpa using q), if_pos q]
            · rw [if_neg (by simpa using q), if_neg q]
          rw [hn, bindO_s, show TableTable.mk t.Work t.Lengths = t from rfl, workV_eq ht, bindO_s]
          have hin := workV_in ht s1.Work (numP s1) p
          generalize workV t s1.Work (numP s1) p = wp at hin ⊢
          by_cases w0 : wp.2 = 0
          · rw [if_neg (show ¬ ((wp.2 != 0) = true) by simpa using w0), if_neg (show ¬ (wp.2 ≠ 0) by simpa using w0), show ApiBlock.mk b.Skip b.Words b.Comment = b from rfl, inp_positions_eq v1 hl (hin w0) hF1, bindO_s]
            have hlenV := posV_len s1 c1 b wp.1
            generalize posV s1 c1 b wp.1 = pv at hlenV ⊢
            obtain ⟨fl, d, e⟩ := pv
            dsimp only at hlenV ⊢
            by_cases e0 : e = 0
            · rw [if_neg (show ¬ ((e != 0) = true) by simpa using e0), if_neg (show ¬ (e ≠ 0) by simpa using e0)]
              rw [run_fin t s1.Work (numP s1) (toolP s1) 0 (fun e => failP e) (by simpa using (show fl.length ≤ 300000 by omega))]
              · cases runM t s1.Work (numP s1) (toolP s1) 0 fl ([], p) <;> rfl
              · intro j x v hv3
                rw [machV_eq ht, bindO_s]
                by_cases z : (machV t s1.Work (numP s1) x.at_).2 = 0
                · rw [if_neg (show ¬ (((machV t s1.Work (numP s1) x.at_).2 != 0) = true) by simpa using z), if_neg (show ¬ ((machV t s1.Work (numP s1) x.at_).2 ≠ 0) by simpa using z)]
                  unfold addM posEq
                  rw [okLen_of (by omega), guardO_t]
                  cases (((machV t s1.Work (numP s1) x.at_).1.X == v.2.X) && (((machV t s1.Work (numP s1) x.at_).1.Y == v.2.Y) && ((machV t s1.Work (numP s1) x.at_).1.Z == v.2.Z))) <;> rfl
                · rw [if_pos (show ((machV t s1.Work (numP s1) x.at_).2 != 0) = true by simpa using z), if_pos (show (machV t s1.Work (numP s1) x.at_).2 ≠ 0 by simpa using z)]
                  rfl
            · rw [if_pos (show (e != 0) = true by simpa using e0), if_pos e0]
              rfl
          · rw [if_pos (show (wp.2 != 0) = true by simpa using w0), if_pos w0]
            rfl
  · rw [if_neg hv]
    have hf : (decide (ew = 0) && (goodW [] b.Words && b.Words.all knW)) = false := by
      cases z : (decide (ew = 0) && (goodW [] b.Words && b.Words.all knW)) with
      | false => rfl
      | true =>
        simp only [Bool.and_eq_true, decide_eq_true_eq] at z
        refine absurd ?_ hv
        rcases hew with ⟨_, y⟩ | ⟨y, _⟩
        · exact ⟨y, z.2.1, z.2.2⟩
        · omega
    rw [hf]; rfl
end Go.Proofs.YtopjpenbieojmaaDoor
