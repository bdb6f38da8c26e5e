/-
  Wa, Wb, Wc in one text.
-/
import Derived.Test.YtnnelopkjdgbgaaDoorVz
namespace Go.Proofs.YtnnelopkjdgbgaaDoor
open Go.RowKit
set_option linter.unusedVariables false
set_option linter.unusedSimpArgs false
def failP (e : Int) : List ApiMotion × ModalState × CycleCycle × Int := ([],zS,zC,e)
def takesP (b : ApiBlock) : Prop := validP b ∧ goodW [] b.Words = true ∧ b.Words.all knW = true
def numP (s : ModalState) : Int := if s.Length = 43000 then IntKind.i64.wrap (Int.tdiv s.Offset 1000) else 0
def workV (t : TableTable) (w n : Int) (q : ApiPos) : ApiPos × Int := (tb_Work t w n q).getD (⟨0,0,0⟩,1)
theorem workV_eq {t : TableTable} (ht : t.Lengths.length ≤ 1000) (w n : Int) (q : ApiPos) : tb_Work t w n q = some (workV t w n q) := by
 obtain ⟨e,h,_⟩ := tb_Work_tot t w n q ht
 unfold workV; rw [h]; rfl
theorem workV_in {t : TableTable} (ht : t.Lengths.length ≤ 1000) (w n : Int) (q : ApiPos) (h0 : (workV t w n q).2 = 0) : inR (workV t w n q).1 := by
 obtain ⟨e,h,h2⟩ := tb_Work_tot t w n q ht
 have := workV_eq ht w n q
 rw [h] at this
 injection this with this
 rw [← this] at h0 ⊢
 exact h2 h0
def toolP (s : ModalState) : Int := IntKind.i64.wrap (Int.tdiv s.Tool 1000)
def moveP (s : ModalState) (c : CycleCycle) (b : ApiBlock) (t : TableTable) (p : ApiPos) : List ApiMotion × ModalState × CycleCycle × Int :=
 if ((hasW b [73,74] && (s.Motion != 2000) && (s.Motion != 3000)) || (hasW b [81,82] && !(cycB s.Motion))) = true then failP 1
 else if ((s.Motion == 80000) || ((s.Motion != 0) && (decide (s.Feed ≤ 0)))) = true then failP 13
 else if (workV t s.Work (numP s) p).2 ≠ 0 then failP (workV t s.Work (numP s) p).2
 else if (posV s c b (workV t s.Work (numP s) p).1).2.2 ≠ 0 then failP (posV s c b (workV t s.Work (numP s) p).1).2.2
 else match runM t s.Work (numP s) (toolP s) 0 (posV s c b (workV t s.Work (numP s) p).1).1 ([],p) with
  | .ret e=>failP e
  | .go u=>(u.1,s,(posV s c b (workV t s.Work (numP s) p).1).2.1,0)
open Classical in
noncomputable def stepP (s : ModalState) (c : CycleCycle) (b : ApiBlock) (t : TableTable) (p : ApiPos) : List ApiMotion × ModalState × CycleCycle × Int :=
  if takesP b then
    (if hasW b [88,89,90,73,74,81,82] = true then moveP (b.Words.foldl putW s) (if cycB (b.Words.foldl putW s).Motion = true then c else zC) b t p
     else ([],b.Words.foldl putW s,if cycB (b.Words.foldl putW s).Motion = true then c else zC,0))
  else failP 1
theorem inp_Step_eq {s : ModalState} {c : CycleCycle} {b : ApiBlock} {t : TableTable} {p : ApiPos} (hb : okS b) (ht : t.Lengths.length ≤ 1000) (hF : i64P s.Feed) (hchk : inp_checked t p = some 0) :
    inp_Step s c b t p = some (stepP s c b t p) := by
  obtain ⟨hu,hl,hc⟩ := hb
  have hok : okB b := ⟨hu,by omega⟩
  obtain ⟨ew,hbk,hew⟩ := bk_Valid_vp b hl hc
  have hbad : (bindO (bk_Valid b) fun (y2 : Int)=>if (y2 != 0) = true then some true else bindO (md_Check b) fun (y3 : Int)=>if (y3 != 0) = true then some true else bindO (inp_known b) fun (y4 : Bool)=>some (!y4)) = some (!(decide (ew = 0) && (goodW [] b.Words && b.Words.all knW))) := by
    rw [hbk,bindO_s]
    by_cases q : ew = 0
    · rw [if_neg (by simpa using q),decide_eq_true q,Bool.true_and,md_Check_eq b hu (by omega),bindO_s]
      cases goodW [] b.Words with
      | false=>rfl
      | true=>rw [if_pos rfl,if_neg (by decide),inp_known_eq b hl,bindO_s,Bool.true_and]
    · rw [if_pos (by simpa using q),decide_eq_false q]; rfl
  unfold inp_Step
  simp only [unit_s]
  rw [hchk,bindO_s,if_neg (show ¬ (((0 : Int) != 0) = true) by decide),hbad,bindO_s]
  unfold stepP
  by_cases hv : takesP b
  · rw [if_pos hv]
    obtain ⟨v1,v2,v3⟩ := hv
    have e0 : ew = 0 := by
      rcases hew with ⟨z,_⟩ | ⟨_,z⟩
      · exact z
      · exact absurd v1 z
    rw [e0,v2,v3,decide_eq_true rfl,if_neg (show ¬ ((!(true && (true && true))) = true) by decide),md_Apply_eq s b hok,bindO_s,if_pos v2]
    have hF1 := fold_feed b.Words s hF (fun w hw=>by
      have := v1.2.2.1 w hw
      unfold okW at this
      unfold i64P; omega)
    generalize b.Words.foldl putW s = s1 at hF1
    dsimp only
    rw [if_neg (show ¬ (((0 : Int) != 0) = true) by decide)]
    have cI : ∀ k,inp_cycles k = some (cycB k) := fun _=>rfl
    simp only [cI,bindO_s]
    obtain ⟨c1,hc1⟩ : ∃ c1,(if cycB s1.Motion = true then c else zC) = c1 := ⟨_,rfl⟩
    have i1 : (if (!cycB s1.Motion) = true then some (CycleCycle.mk 0 0 0 0 0 0 false) else some (CycleCycle.mk c.Code c.R c.Z c.Q c.Rate c.Initial c.High)) = some c1 := by
      rw [← hc1]
      cases cycB s1.Motion <;> rfl
    have a1 : inp_has b [88,89,90,73,74,81,82] = some (hasW b [88,89,90,73,74,81,82]) := inp_has_eq b _ hl (by decide)
    have a2 : inp_has b [73,74] = some (hasW b [73,74]) := inp_has_eq b _ hl (by decide)
    have a3 : inp_has b [81,82] = some (hasW b [81,82]) := inp_has_eq b _ hl (by decide)
    rw [i1,bindO_s,hc1]
    simp only [a1,a2,a3,bindO_s]
    cases hXYZ : hasW b [88,89,90,73,74,81,82] with
    | false=>rfl
    | true =>
      rw [if_neg (show ¬ ((!true) = true) by decide),if_pos rfl,ijqr,bindO_s]
      unfold moveP
      cases hbad2 : ((hasW b [73,74] && (s1.Motion != 2000) && (s1.Motion != 3000)) || (hasW b [81,82] && !(cycB s1.Motion))) with
      | true=>rfl
      | false =>
        rw [if_neg (show ¬ (false = true) by decide),if_neg (show ¬ (false = true) by decide)]
        cases hst : ((s1.Motion == 80000) || ((s1.Motion != 0) && (decide (s1.Feed ≤ 0)))) with
        | true=>rfl
        | false =>
          rw [if_neg (show ¬ (false = true) by decide),if_neg (show ¬ (false = true) by decide)]
          have hn : (if (s1.Length == 43000) = true then some (IntKind.i64.wrap (Int.tdiv s1.Offset 1000)) else some 0) = some (numP s1) := by
            unfold numP
            by_cases q : s1.Length = 43000
            · rw [if_pos (by simpa using q),if_pos q]
            · rw [if_neg (by simpa using q),if_neg q]
          rw [hn,bindO_s,show TableTable.mk t.Work t.Lengths = t from rfl,workV_eq ht,bindO_s]
          have hin := workV_in ht s1.Work (numP s1) p
          generalize workV t s1.Work (numP s1) p = wp at hin ⊢
          by_cases w0 : wp.2 = 0
          · rw [if_neg (show ¬ ((wp.2 != 0) = true) by simpa using w0),if_neg (show ¬ (wp.2 ≠ 0) by simpa using w0),show ApiBlock.mk b.Skip b.Words b.Comment = b from rfl,inp_positions_eq v1 hl (hin w0) hF1,bindO_s]
            have hlenV := posV_len s1 c1 b wp.1
            generalize posV s1 c1 b wp.1 = pv at hlenV ⊢
            obtain ⟨fl,d,e⟩ := pv
            dsimp only at hlenV ⊢
            by_cases e0 : e = 0
            · rw [if_neg (show ¬ ((e != 0) = true) by simpa using e0),if_neg (show ¬ (e ≠ 0) by simpa using e0)]
              rw [run_fin t s1.Work (numP s1) (toolP s1) 0 (fun e=>failP e) (by simpa using (show fl.length ≤ 300000 by omega))]
              · cases runM t s1.Work (numP s1) (toolP s1) 0 fl ([],p) <;> rfl
              · intro j x v hv3
                rw [machV_eq ht,bindO_s]
                by_cases z : (machV t s1.Work (numP s1) x.at_).2 = 0
                · rw [if_neg (show ¬ (((machV t s1.Work (numP s1) x.at_).2 != 0) = true) by simpa using z),if_neg (show ¬ ((machV t s1.Work (numP s1) x.at_).2 ≠ 0) by simpa using z)]
                  unfold addM posEq
                  rw [okLen_of (by omega),guardO_t]
                  cases (((machV t s1.Work (numP s1) x.at_).1.X == v.2.X) && (((machV t s1.Work (numP s1) x.at_).1.Y == v.2.Y) && ((machV t s1.Work (numP s1) x.at_).1.Z == v.2.Z))) <;> rfl
                · rw [if_pos (show ((machV t s1.Work (numP s1) x.at_).2 != 0) = true by simpa using z),if_pos (show (machV t s1.Work (numP s1) x.at_).2 ≠ 0 by simpa using z)]
                  rfl
            · rw [if_pos (show (e != 0) = true by simpa using e0),if_pos e0]
              rfl
          · rw [if_pos (show (wp.2 != 0) = true by simpa using w0),if_pos w0]
            rfl
  · rw [if_neg hv]
    have hf : (decide (ew = 0) && (goodW [] b.Words && b.Words.all knW)) = false := by
      cases z : (decide (ew = 0) && (goodW [] b.Words && b.Words.all knW)) with
      | false=>rfl
      | true =>
        simp only [Bool.and_eq_true,decide_eq_true_eq] at z
        refine absurd ?_ hv
        rcases hew with ⟨_,y⟩ | ⟨y,_⟩
        · exact ⟨y,z.2.1,z.2.2⟩
        · omega
    rw [hf]; rfl
end Go.Proofs.YtnnelopkjdgbgaaDoor
namespace Go.Proofs.YtnnelopkjdgbgaaDoor
open Go.RowKit
set_option linter.unusedVariables false
set_option linter.unusedSimpArgs false
theorem stepT_P {s : ModalState} {c : CycleCycle} {b : ApiBlock} {t : TableTable} {p : ApiPos} (hb : okS b) (ht : t.Lengths.length ≤ 1000) (hF : i64P s.Feed) (hchk : inp_checked t p = some 0) : stepT s c b t p = stepP s c b t p := by
 have h := stepT_eq (s := s) (c := c) (p := p) hb ht
 rw [inp_Step_eq hb ht hF hchk] at h
 injection h with h
 exact h.symm
theorem checked_0 {t : TableTable} {p : ApiPos} (hv : tb_Valid t = some 0) (hp : inR p) : inp_checked t p = some 0 := by
 unfold inp_checked
 rw [show TableTable.mk t.Work t.Lengths = t from rfl,hv,bindO_s,inp_inside_eq,bindO_s,decide_eq_true hp]
 rfl
end Go.Proofs.YtnnelopkjdgbgaaDoor
namespace Go.Proofs.YtnnelopkjdgbgaaDoor
open Go.RowKit
set_option linter.unusedVariables false
set_option linter.unusedSimpArgs false
def rglS (s : ModalState) : Prop := grp s.Motion = 1 ∧ grp s.Distance = 2 ∧ grp s.Work = 3 ∧ grp s.Length = 4 ∧ grp s.Return = 5 ∧ (0 ≤ s.Feed ∧ s.Feed ≤ 1000000000000) ∧ (0 ≤ s.Tool ∧ s.Tool ≤ 1000000000000 ∧ Int.tmod s.Tool 1000 = 0) ∧ (0 ≤ s.Offset ∧ s.Offset ≤ 1000000000000 ∧ Int.tmod s.Offset 1000 = 0)
theorem rgl_new : rglS newS := by
 refine ⟨by decide,by decide,by decide,by decide,by decide,⟨by decide,by decide⟩,⟨by decide,by decide,by decide⟩,by decide,by decide,by decide⟩
theorem rgl_put {s : ModalState} {w : ApiWord} (h : rglS s) (h0 : clsW w ≠ 0) (h1 : wholeW w = true) (h2 : okW w) : rglS (putW s w) := by
 obtain ⟨a1,a2,a3,a4,a5,a6,a7,a8⟩ := h
 obtain ⟨b1,b2,b3,b4⟩ := h2
 unfold putW
 unfold clsW at h0
 unfold wholeW at h1
 by_cases q1 : w.Letter = 71
 ·rw [if_pos q1] at h0 ⊢
  rcases grp_in w.Value with z | z | z | z | z | z
  ·exact absurd z h0
  ·rw [if_pos z]; exact ⟨z,a2,a3,a4,a5,a6,a7,a8⟩
  ·rw [if_neg (by omega),if_pos z]; exact ⟨a1,z,a3,a4,a5,a6,a7,a8⟩
  ·rw [if_neg (by omega),if_neg (by omega),if_pos z]; exact ⟨a1,a2,z,a4,a5,a6,a7,a8⟩
  ·rw [if_neg (by omega),if_neg (by omega),if_neg (by omega),if_pos z]; exact ⟨a1,a2,a3,z,a5,a6,a7,a8⟩
  ·rw [if_neg (by omega),if_neg (by omega),if_neg (by omega),if_neg (by omega)]; exact ⟨a1,a2,a3,a4,z,a6,a7,a8⟩
 ·rw [if_neg q1]
  by_cases q2 : w.Letter = 70
  ·rw [if_pos q2] at h1 ⊢
   simp at h1
   exact ⟨a1,a2,a3,a4,a5,⟨h1,b4⟩,a7,a8⟩
  ·rw [if_neg q2] at h1 ⊢
   by_cases q3 : w.Letter = 84
   ·rw [if_pos (.inl q3)] at h1
    rw [if_pos q3]
    simp at h1
    exact ⟨a1,a2,a3,a4,a5,a6,⟨h1.1,b4,h1.2⟩,a8⟩
   ·rw [if_neg q3]
    by_cases q4 : w.Letter = 72
    ·rw [if_pos (.inr q4)] at h1
     rw [if_pos q4]
     simp at h1
     exact ⟨a1,a2,a3,a4,a5,a6,a7,h1.1,b4,h1.2⟩
    ·rw [if_neg q4]; exact ⟨a1,a2,a3,a4,a5,a6,a7,a8⟩
theorem rgl_fold : ∀ (l : List ApiWord) (seen : List Int) (s : ModalState),rglS s → goodW seen l = true → (∀ w ∈ l,okW w) → rglS (l.foldl putW s)
 | [],_,s,h,_,_=>h
 | w :: l,seen,s,h,hg,ho=>by
  simp only [goodW,Bool.and_eq_true,bne_iff_ne,ne_eq] at hg
  exact rgl_fold l (clsW w :: seen) (putW s w) (rgl_put h hg.1.1.1 hg.1.1.2 (ho w (by simp))) hg.2 (fun x hx=>ho x (by simp [hx]))
def linW (s : ModalState) : List ApiWord := [⟨71,s.Motion⟩,⟨71,s.Distance⟩,⟨71,s.Work⟩,⟨71,s.Length⟩,⟨71,s.Return⟩,⟨70,s.Feed⟩,⟨84,s.Tool⟩,⟨72,s.Offset⟩]
def linB (s : ModalState) : ApiBlock := ⟨false,linW s,[]⟩
theorem okS_lin (s : ModalState) : okS (linB s) := by
 refine ⟨fun w hw=>?_,by simp [linB,linW],by simp [linB]⟩
 simp only [linB,linW,List.mem_cons,List.not_mem_nil,or_false] at hw
 rcases hw with rfl | rfl | rfl | rfl | rfl | rfl | rfl | rfl <;> (unfold u8W; dsimp only; omega)
theorem lin_good {s : ModalState} (h : rglS s) : goodW [] (linW s) = true := by
 obtain ⟨a1,a2,a3,a4,a5,a6,a7,a8⟩ := h
 simp [linW,goodW,clsW,wholeW,a1,a2,a3,a4,a5,a6.1,a7.1,a7.2.2,a8.1,a8.2.2]
theorem grp_bd {c : Int} (h : grp c ≠ 0) : 0 ≤ c ∧ c ≤ 100000 := by
 unfold grp codes1 codes2 codes3 codes4 codes5 at h
 simp only [List.mem_cons,List.not_mem_nil,or_false] at h
 split at h
 ·omega
 ·split at h
  ·omega
  ·split at h
   ·omega
   ·split at h
    ·omega
    ·split at h
     ·omega
     ·exact absurd rfl h
theorem lin_takes {s : ModalState} (h : rglS s) : takesP (linB s) := by
 have hg := lin_good h
 obtain ⟨a1,a2,a3,a4,a5,a6,a7,a8⟩ := h
 have c1 := grp_bd (c := s.Motion) (by omega)
 have c2 := grp_bd (c := s.Distance) (by omega)
 have c3 := grp_bd (c := s.Work) (by omega)
 have c4 := grp_bd (c := s.Length) (by omega)
 have c5 := grp_bd (c := s.Return) (by omega)
 refine ⟨⟨by simp [linB,linW],by simp [linB],fun w hw=>?_,by simp [linB]⟩,hg,?_⟩
 ·simp only [linB,linW,List.mem_cons,List.not_mem_nil,or_false] at hw
  rcases hw with rfl | rfl | rfl | rfl | rfl | rfl | rfl | rfl <;> (unfold okW; dsimp only; omega)
 ·simp [linB,linW,knW]
theorem lin_fold {s : ModalState} (h : rglS s) : (linB s).Words.foldl putW s = s := by
 obtain ⟨a1,a2,a3,a4,a5,a6,a7,a8⟩ := h
 simp [linB,linW,putW,a1,a2,a3,a4,a5]
theorem step_lin {s : ModalState} {c : CycleCycle} {t : TableTable} {p : ApiPos} (h : rglS s) (hc : cycB s.Motion = false → c = zC) (ht : t.Lengths.length ≤ 1000) (hchk : inp_checked t p = some 0) : stepT s c (linB s) t p = ([],s,c,0) := by
 rw [stepT_P (okS_lin s) ht (by obtain ⟨_,_,_,_,_,a6,_⟩ := h; unfold i64P; omega) hchk]
 unfold stepP
 rw [if_pos (lin_takes h),lin_fold h]
 have hh : hasW (linB s) [88,89,90,73,74,81,82] = false := rfl
 rw [hh,if_neg (by simp)]
 cases q : cycB s.Motion with
 | true=>rw [if_pos rfl]
 | false=>rw [if_neg (by simp),hc q]
theorem ends_lin (s : ModalState) : endsW (linB s) = false := rfl
def allS : ModalState → List ApiBlock → Option ModalState
 | s,[]=>some s
 | s,b :: l=>if goodW [] b.Words = true then allS (b.Words.foldl putW s) l else none
theorem step_keeps {s : ModalState} {c : CycleCycle} {b : ApiBlock} {t : TableTable} {p : ApiPos} (h : rglS s) (hb : okS b) (ht : t.Lengths.length ≤ 1000) (hchk : inp_checked t p = some 0) (h0 : (stepT s c b t p).2.2.2 = 0) :
  takesP b ∧ (stepT s c b t p).2.1 = b.Words.foldl putW s ∧ (cycB (b.Words.foldl putW s).Motion = false → (stepT s c b t p).2.2.1 = zC) := by
 have hF : i64P s.Feed := by obtain ⟨_,_,_,_,_,a6,_⟩ := h; unfold i64P; omega
 rw [stepT_P hb ht hF hchk] at h0 ⊢
 unfold stepP at h0 ⊢
 by_cases hv : takesP b
 ·rw [if_pos hv] at h0 ⊢
  refine ⟨hv,?_⟩
  generalize b.Words.foldl putW s = s1 at h0 ⊢
  by_cases hx : hasW b [88,89,90,73,74,81,82] = true
  ·rw [if_pos hx] at h0 ⊢
   generalize (if cycB s1.Motion = true then c else zC) = c1 at h0 ⊢
   unfold moveP at h0 ⊢
   have hf : ∀ e : Int,(failP e).2.2.2 = e := fun _=>rfl
   split at h0
   ·rw [hf] at h0; omega
   ·rename_i q1
    rw [if_neg q1]
    split at h0
    ·rw [hf] at h0; omega
    ·rename_i q2
     rw [if_neg q2]
     split at h0
     ·rename_i q3; rw [hf] at h0; exact absurd h0 q3
     ·rename_i q3
      rw [if_neg q3]
      split at h0
      ·rename_i q4; rw [hf] at h0; exact absurd h0 q4
      ·rename_i q4
       rw [if_neg q4]
       have hpz : cycB s1.Motion = false → (posV s1 c1 b (workV t s1.Work (numP s1) p).1).2.1 = zC := fun z=>by
        unfold posV
        split
        ·rfl
        ·split
         ·rfl
         ·rw [if_neg (by simp [z])]
          split <;> rfl
       cases hr : runM t s1.Work (numP s1) (toolP s1) 0 (posV s1 c1 b (workV t s1.Work (numP s1) p).1).1 ([],p) with
       | ret e=>rw [hr] at h0; exact absurd h0 (runM_ret _ _ _ _ _ _ _ _ hr)
       | go u=>exact ⟨rfl,hpz⟩
  ·rw [if_neg hx] at h0 ⊢
   exact ⟨rfl,fun z=>by simp [z]⟩
 ·rw [if_neg hv] at h0
  cases h0
def shM (k : Nat) (m : ApiMotion) : ApiMotion := if m.Block ≥ (k : Int) then ⟨m.From,m.To,m.Rate,m.Tool,m.Block + 1⟩ else m
def shR (k : Nat) (r : List ApiMotion × InterpreterAlarm) : List ApiMotion × InterpreterAlarm := (r.1.map (shM k),if r.2.Block ≥ (k : Int) then ⟨r.2.Block + 1,r.2.Code⟩ else r.2)
theorem shM_ge {k : Nat} {m : ApiMotion} (h : (k : Int) ≤ m.Block) : shM k m = ⟨m.From,m.To,m.Rate,m.Tool,m.Block + 1⟩ := if_pos h
theorem shM_lt {k : Nat} {m : ApiMotion} (h : m.Block < (k : Int)) : shM k m = m := if_neg (by omega)
theorem shR_ge {k : Nat} {o : List ApiMotion} {b c : Int} (h : (k : Int) ≤ b) : shR k (o,⟨b,c⟩) = (o.map (shM k),⟨b + 1,c⟩) := by
 unfold shR
 rw [if_pos (show (o,InterpreterAlarm.mk b c).2.Block ≥ (k : Int) from h)]
theorem shR_lt {k : Nat} {o : List ApiMotion} {b c : Int} (h : b < (k : Int)) : shR k (o,⟨b,c⟩) = (o.map (shM k),⟨b,c⟩) := by
 unfold shR
 rw [if_neg (show ¬ ((o,InterpreterAlarm.mk b c).2.Block ≥ (k : Int)) by show ¬ (b ≥ (k : Int)); omega)]
theorem sh_ge {k i : Nat} (h : k ≤ i) (l : List ApiMotion) : (l.map (setB i)).map (shM k) = l.map (setB (i + 1)) := by
 rw [List.map_map]
 apply List.map_congr_left
 intro m _
 show shM k (setB i m) = _
 rw [shM_ge (show (k : Int) ≤ (i : Int) by omega)]
 rfl
theorem sh_lt {k i : Nat} (h : i < k) (l : List ApiMotion) : (l.map (setB i)).map (shM k) = l.map (setB i) := by
 rw [List.map_map]
 apply List.map_congr_left
 intro m _
 show shM k (setB i m) = _
 rw [shM_lt (show (i : Int) < (k : Int) by omega)]
theorem sh_after (t : TableTable) {k N : Nat} (hN : k ≤ N) : ∀ (l : List ApiBlock) (i : Nat) (o : List ApiMotion) (v : ApiPos × ModalState × CycleCycle),k ≤ i →
  runB t (N + 1) (i + 1) l (o.map (shM k),v) = shR k (runB t N i l (o,v))
 | [],i,o,v,_=>by
  simp only [runB]
  rw [shR_ge (by omega)]
  rfl
 | b :: l,i,o,v,hi=>by
  simp only [runB,List.length_map]
  by_cases h1 : (stepT v.2.1 v.2.2 b t v.1).2.2.2 ≠ 0
  ·rw [if_pos h1,if_pos h1]
   rw [shR_ge (by omega)]
   rfl
  ·rw [if_neg h1,if_neg h1]
   by_cases h2 : o.length + (stepT v.2.1 v.2.2 b t v.1).1.length > 20000
   ·rw [if_pos h2,if_pos h2]
    rw [shR_ge (by omega)]
    rfl
   ·rw [if_neg h2,if_neg h2]
    by_cases h3 : endsW b = true
    ·rw [if_pos h3,if_pos h3]
     rw [shR_lt (by omega),List.map_append,sh_ge hi]
    ·rw [if_neg h3,if_neg h3,show o.map (shM k) ++ (stepT v.2.1 v.2.2 b t v.1).1.map (setB (i + 1)) = (o ++ (stepT v.2.1 v.2.2 b t v.1).1.map (setB i)).map (shM k) by rw [List.map_append,sh_ge hi]]
     exact sh_after t hN l (i + 1) _ _ (by omega)
theorem valid_of_checked {t : TableTable} {p : ApiPos} (ht : t.Lengths.length ≤ 1000) (h : inp_checked t p = some 0) : tb_Valid t = some 0 ∧ inR p := by
 obtain ⟨e,he,h2⟩ := inp_checked_tot t p ht
 rw [he] at h
 injection h with h
 refine ⟨?_,h2 h⟩
 subst h
 unfold inp_checked at he
 rw [show TableTable.mk t.Work t.Lengths = t from rfl] at he
 obtain ⟨e,hv,_⟩ := tb_Valid_tot t ht
 rw [hv,bindO_s] at he
 by_cases q : e = 0
 ·rw [hv,q]
 ·rw [if_pos (by simpa using q)] at he
  injection he with he
  cases he
theorem ins_run {t : TableTable} (ht : t.Lengths.length ≤ 1000) {N k : Nat} {sB : ModalState} (l2 : List ApiBlock) (hN : k ≤ N) : ∀ (l1 : List ApiBlock) (j : Nat) (o : List ApiMotion) (p : ApiPos) (s : ModalState) (c : CycleCycle),j + l1.length = k → (∀ b ∈ l1,okS b) → o.length ≤ 20000 → rglS s → (cycB s.Motion = false → c = zC) → inp_checked t p = some 0 → allS s l1 = some sB →
  runB t (N + 1) j (l1 ++ linB sB :: l2) (o.map (shM k),p,s,c) = shR k (runB t N j (l1 ++ l2) (o,p,s,c))
 | [],j,o,p,s,c,hj,_,ho,hs,hc,hp,ha=>by
  injection ha with ha
  subst ha
  simp only [List.length_nil,Nat.add_zero] at hj
  subst hj
  have h := step_lin hs hc ht hp
  have hw : endW p [] = p := rfl
  rw [List.nil_append,List.nil_append,← sh_after t hN l2 j o (p,s,c) (Nat.le_refl _)]
  conv=>lhs; unfold runB
  simp only [h,ends_lin,List.map_nil,List.append_nil,List.length_nil,Nat.add_zero,hw,List.length_map]
  rw [if_neg (by simp),if_neg (by omega),if_neg (by simp)]
 | b :: l1,j,o,p,s,c,hj,hb,ho,hs,hc,hp,ha=>by
  simp only [List.length_cons] at hj
  have hbk := hb b (by simp)
  simp only [List.cons_append,runB,List.length_map]
  have hE := stepT_E (s := s) (c := c) (p := p) hbk ht
  have hK := step_keeps (c := c) hs hbk ht hp
  generalize stepT s c b t p = r at hE hK
  by_cases h1 : r.2.2.2 ≠ 0
  ·rw [if_pos h1,if_pos h1]
   rw [shR_lt (by omega)]
  ·rw [if_neg h1,if_neg h1]
   have h10 : r.2.2.2 = 0 := by simpa using h1
   obtain ⟨kv,k1,k2⟩ := hK h10
   by_cases h2 : o.length + r.1.length > 20000
   ·rw [if_pos h2,if_pos h2]
    rw [shR_lt (by omega)]
   ·rw [if_neg h2,if_neg h2]
    by_cases h3 : endsW b = true
    ·rw [if_pos h3,if_pos h3]
     rw [shR_lt (by omega),List.map_append,sh_lt (by omega)]
    ·rw [if_neg h3,if_neg h3,show o.map (shM k) ++ r.1.map (setB j) = (o ++ r.1.map (setB j)).map (shM k) by rw [List.map_append,sh_lt (by omega)]]
     simp only [allS] at ha
     rw [if_pos kv.2.1] at ha
     have hin := (hE.2.2 h10).1.2.2
     rw [k1]
     refine ins_run ht l2 hN l1 (j + 1) _ _ _ _ (by omega) (fun x hx=>hb x (by simp [hx])) (by simp; omega) (rgl_fold _ _ _ hs kv.2.1 kv.1.2.2.1) k2 (checked_0 (valid_of_checked ht hp).1 hin) ha
end Go.Proofs.YtnnelopkjdgbgaaDoor
