import Derived.Test.YtopjpenbieojmaaDoorWa
namespace Go.Proofs.YtopjpenbieojmaaDoor
open Go.RowKit
set_option linter.unusedVariables false
set_option linter.unusedSimpArgs false
theorem moved_back {p o q : ApiPos} {s : Int} (hs : s = 1 ∨ s = -1) (b1 : -30000000 ≤ o.X ∧ o.X ≤ 30000000) (b2 : -30000000 ≤ o.Y ∧ o.Y ≤ 30000000) (b3 : -30000000 ≤ o.Z ∧ o.Z ≤ 30000000) (h : tb_moved p o s = some (q, 0)) : tb_moved q o (-s) = some (p, 0) := by
 unfold tb_moved at h ⊢
 rw [tb_far_eq, bindO_s] at h
 by_cases hp : inR p
 ·rw [decide_eq_true hp] at h
  simp only [Bool.not_true, Bool.false_eq_true, if_false] at h
  rw [tb_far_eq, bindO_s] at h
  have hp' := hp
  unfold inR at hp'
  obtain ⟨x, y, z⟩ := p
  obtain ⟨a, b, c⟩ := o
  simp only at hp' b1 b2 b3 h
  have w1 : ∀ u v : Int, (-10000000 ≤ u ∧ u ≤ 10000000) → (-30000000 ≤ v ∧ v ≤ 30000000) → IntKind.i64.wrap (u + IntKind.i64.wrap (s * v)) = u + s * v := fun u v hu hv => by
   rcases hs with rfl | rfl
   ·rw [wrap_i64 (n := 1 * v) (by omega) (by omega), wrap_i64 (by omega) (by omega)]
   ·rw [wrap_i64 (n := -1 * v) (by omega) (by omega), wrap_i64 (by omega) (by omega)]
  have w2 : ∀ u v : Int, (-10000000 ≤ u ∧ u ≤ 10000000) → (-30000000 ≤ v ∧ v ≤ 30000000) → IntKind.i64.wrap (u + s * v + IntKind.i64.wrap (-s * v)) = u := fun u v hu hv => by
   rcases hs with rfl | rfl
   ·rw [wrap_i64 (n := -1 * v) (by omega) (by omega), wrap_i64 (by omega) (by omega)]; omega
   ·rw [wrap_i64 (n := - -1 * v) (by omega) (by omega), wrap_i64 (by omega) (by omega)]; omega
  rw [w1 x a hp'.1 b1, w1 y b hp'.2.1 b2, w1 z c hp'.2.2 b3] at h
  by_cases hq : inR (ApiPos.mk (x + s * a) (y + s * b) (z + s * c))
  ·rw [decide_eq_true hq] at h
   simp only [Bool.not_true, Bool.false_eq_true, if_false] at h
   injection h with h; injection h with h _
   subst h
   rw [tb_far_eq, bindO_s, decide_eq_true hq]
   simp only [Bool.not_true, Bool.false_eq_true, if_false]
   rw [tb_far_eq, bindO_s, w2 x a hp'.1 b1, w2 y b hp'.2.1 b2, w2 z c hp'.2.2 b3, decide_eq_true hp]
   rfl
  ·rw [decide_eq_false hq] at h
   simp only [Bool.not_false, if_true] at h
   injection h with h; injection h with _ h; cases h
 ·rw [decide_eq_false hp] at h
  simp only [Bool.not_false, if_true] at h
  injection h with h; injection h with _ h; cases h
theorem mach_back {t : TableTable} {c n : Int} {p q : ApiPos} (hl : t.Lengths.length ≤ 1000) (h : tb_Machine t c n p = some (q, 0)) : tb_Work t c n q = some (p, 0) := by
 unfold tb_Machine at h
 unfold tb_Work
 try rw [show TableTable.mk t.Work t.Lengths = t from rfl] at h
 try rw [show TableTable.mk t.Work t.Lengths = t from rfl]
 obtain ⟨r, hr, hb⟩ := tb_offset_tot t c n hl
 rw [hr, bindO_s] at h ⊢
 cases he : (r.2 != 0) with
 | true =>
  rw [he] at h
  simp only [if_true] at h
  injection h with h; injection h with _ h
  rw [h] at he; cases he
 | false =>
  rw [he] at h
  have h0 := hb (by simpa using he)
  simp only [Bool.false_eq_true, if_false] at h ⊢
  obtain ⟨m, hm, _⟩ := tb_moved_tot p r.1 1
  rw [hm, bindO_s] at h
  injection h with h
  rw [show m = (q, 0) from h] at hm
  rw [moved_back (.inl rfl) (by omega) (by omega) (by omega) hm]; rfl
theorem stepT_P {s : ModalState} {c : CycleCycle} {b : ApiBlock} {t : TableTable} {p : ApiPos} (hb : okS b) (ht : t.Lengths.length ≤ 1000) (hF : i64P s.Feed) (hchk : inp_checked t p = some 0) : stepT s c b t p = stepP s c b t p := by
 have h := stepT_eq (s := s) (c := c) (p := p) hb ht
 rw [inp_Step_eq hb ht hF hchk] at h
 injection h with h
 exact h.symm
theorem checked_0 {t : TableTable} {p : ApiPos} (hv : tb_Valid t = some 0) (hp : inR p) : inp_checked t p = some 0 := by
 unfold inp_checked
 rw [show TableTable.mk t.Work t.Lengths = t from rfl, hv, bindO_s, inp_inside_eq, bindO_s, decide_eq_true hp]
 rfl
def hdB (d k : Int) : ApiBlock := ⟨false, [⟨71, d⟩, ⟨71, k⟩, ⟨70, 5000⟩], []⟩
def bX (p : ApiPos) : ApiBlock := ⟨false, [⟨88, p.X⟩, ⟨89, p.Y⟩, ⟨90, p.Z⟩], []⟩
def endB : ApiBlock := ⟨false, [⟨77, 30000⟩], []⟩
def stR (k d : Int) : ModalState := ⟨k, d, 54000, 49000, 98000, 5000, 0, 0⟩
theorem okS_hd (d k : Int) : okS (hdB d k) := by
 refine ⟨fun w hw => ?_, by simp [hdB], by simp [hdB]⟩
 simp only [hdB, List.mem_cons, List.not_mem_nil, or_false] at hw
 rcases hw with rfl | rfl | rfl <;> (unfold u8W; dsimp only; omega)
theorem okS_bX (p : ApiPos) : okS (bX p) := by
 refine ⟨fun w hw => ?_, by simp [bX], by simp [bX]⟩
 simp only [bX, List.mem_cons, List.not_mem_nil, or_false] at hw
 rcases hw with rfl | rfl | rfl <;> (unfold u8W; dsimp only; omega)
theorem okS_end : okS endB := by
 refine ⟨fun w hw => ?_, by simp [endB], by simp [endB]⟩
 simp only [endB, List.mem_cons, List.not_mem_nil, or_false] at hw
 rcases hw with rfl <;> (unfold u8W; dsimp only; omega)
theorem step_hd {t : TableTable} {p : ApiPos} {d k : Int} (hd : d = 90000 ∨ d = 91000) (hk : k = 0 ∨ k = 1000) (ht : t.Lengths.length ≤ 1000) (hchk : inp_checked t p = some 0) : stepT newS zC (hdB d k) t p = ([], stR k d, zC, 0) := by
 rw [stepT_P (okS_hd d k) ht (by unfold i64P newS; dsimp only; omega) hchk]
 unfold stepP
 have hv : takesP (hdB d k) := by
  refine ⟨⟨by simp [hdB], by simp [hdB], fun w hw => ?_, by simp [hdB]⟩, ?_, ?_⟩
  ·simp only [hdB, List.mem_cons, List.not_mem_nil, or_false] at hw
   rcases hw with rfl | rfl | rfl <;> (unfold okW; dsimp only; omega)
  ·rcases hd with rfl | rfl <;> rcases hk with rfl | rfl <;> decide
  ·rcases hd with rfl | rfl <;> rcases hk with rfl | rfl <;> decide
 rw [if_pos hv]
 have hf : (hdB d k).Words.foldl putW newS = stR k d := by
  rcases hd with rfl | rfl <;> rcases hk with rfl | rfl <;> decide
 have hh : hasW (hdB d k) [88, 89, 90, 73, 74, 81, 82] = false := rfl
 rw [hf, hh, if_neg (by simp)]
 have : (if cycB (stR k d).Motion = true then zC else zC) = zC := by split <;> rfl
 rw [this]
theorem step_end {s : ModalState} {t : TableTable} {p : ApiPos} (hF : i64P s.Feed) (ht : t.Lengths.length ≤ 1000) (hchk : inp_checked t p = some 0) : stepT s zC endB t p = ([], s, zC, 0) := by
 rw [stepT_P okS_end ht hF hchk]
 unfold stepP
 have hv : takesP endB := by
  refine ⟨⟨by simp [endB], by simp [endB], fun w hw => ?_, by simp [endB]⟩, by decide, by decide⟩
  simp only [endB, List.mem_cons, List.not_mem_nil, or_false] at hw
  rcases hw with rfl <;> (unfold okW; dsimp only; omega)
 rw [if_pos hv]
 have hf : endB.Words.foldl putW s = s := rfl
 have hh : hasW endB [88, 89, 90, 73, 74, 81, 82] = false := rfl
 rw [hf, hh, if_neg (by simp)]
 have : (if cycB s.Motion = true then zC else zC) = zC := by split <;> rfl
 rw [this]
def rateK (k : Int) : Int := if k = 0 then 0 else 5000
theorem machV_in {t : TableTable} (ht : t.Lengths.length ≤ 1000) (w n : Int) (q : ApiPos) (h0 : (machV t w n q).2 = 0) : inR (machV t w n q).1 := by
 obtain ⟨e, h, h2⟩ := tb_Machine_tot t w n q ht
 have := machV_eq ht w n q
 rw [h] at this
 injection this with this
 rw [← this] at h0 ⊢
 exact h2 h0
theorem machV_back {t : TableTable} (ht : t.Lengths.length ≤ 1000) {w n : Int} {q : ApiPos} (h0 : (machV t w n q).2 = 0) : workV t w n (machV t w n q).1 = (q, 0) := by
 have h1 := machV_eq ht w n q
 have h2 : tb_Machine t w n q = some ((machV t w n q).1, 0) := by rw [h1]; congr 1; rw [← h0]
 have h3 := mach_back ht h2
 rw [workV_eq ht] at h3
 injection h3
theorem step_bX {t : TableTable} {p pw x q : ApiPos} {d k : Int} (hk : k = 0 ∨ k = 1000) (ht : t.Lengths.length ≤ 1000) (hchk : inp_checked t p = some 0) (hw : workV t 54000 0 p = (pw, 0)) (hx : okW ⟨88, x.X⟩ ∧ okW ⟨89, x.Y⟩ ∧ okW ⟨90, x.Z⟩) (hq : tgtW (stR k d) (bX x) pw = q) :
  stepT (stR k d) zC (bX x) t p = if (machV t 54000 0 q).2 ≠ 0 then failP (machV t 54000 0 q).2 else ((addM (machV t 54000 0 q).1 (rateK k) 0 0 ([], p)).1, stR k d, zC, 0) := by
 rw [stepT_P (okS_bX x) ht (by unfold i64P stR; dsimp only; omega) hchk]
 unfold stepP
 have hv : takesP (bX x) := by
  refine ⟨⟨by simp [bX], by simp [bX], fun w hw => ?_, by simp [bX]⟩, ?_, ?_⟩
  ·simp only [bX, List.mem_cons, List.not_mem_nil, or_false] at hw
   rcases hw with rfl | rfl | rfl
   ·exact hx.1
   ·exact hx.2.1
   ·exact hx.2.2
  ·simp [bX, goodW, clsW, wholeW]
  ·simp [bX, knW]
 rw [if_pos hv]
 have hf : (bX x).Words.foldl putW (stR k d) = stR k d := rfl
 have hh : hasW (bX x) [88, 89, 90, 73, 74, 81, 82] = true := rfl
 rw [hf, hh, if_pos rfl]
 have : (if cycB (stR k d).Motion = true then zC else zC) = zC := by split <;> rfl
 rw [this]
 unfold moveP
 have h1 : hasW (bX x) [73, 74] = false := rfl
 have h2 : hasW (bX x) [81, 82] = false := rfl
 have h3 : (((stR k d).Motion == 80000) || (((stR k d).Motion != 0) && (decide ((stR k d).Feed ≤ 0)))) = false := by
  rcases hk with rfl | rfl <;> rfl
 have h4 : numP (stR k d) = 0 := rfl
 have h5 : toolP (stR k d) = 0 := rfl
 have h6 : (stR k d).Work = 54000 := rfl
 rw [h1, h2, h3, h4, h5, h6, hw, if_neg (by simp), if_neg (by simp), if_neg (by simp)]
 have hp : posV (stR k d) zC (bX x) pw = ([⟨q, rateK k⟩], zC, 0) := by
  unfold posV
  rw [hq]
  rcases hk with rfl | rfl <;> rfl
 dsimp only
 rw [hp, if_neg (by simp)]
 simp only [runM]
 by_cases z : (machV t 54000 0 q).2 = 0
 ·rw [if_neg (by simpa using z), if_neg (by simpa using z)]
 ·rw [if_pos z, if_pos z]
def addP (p d : ApiPos) : ApiPos := ⟨p.X + d.X, p.Y + d.Y, p.Z + d.Z⟩
def absL : ApiPos → List ApiPos → List ApiBlock
 | _, [] => []
 | p, d :: l => bX (addP p d) :: absL (addP p d) l
theorem absL_snoc : ∀ (l : List ApiPos) (p d : ApiPos), absL p (l ++ [d]) = absL p l ++ [bX (addP (l.foldl addP p) d)]
 | [], p, d => rfl
 | x :: l, p, d => by
  simp only [List.cons_append, absL, List.foldl_cons, absL_snoc l]
theorem absL_len : ∀ (l : List ApiPos) (p : ApiPos), (absL p l).length = l.length
 | [], _ => rfl
 | x :: l, p => by simp [absL, absL_len l]
theorem absL_ok : ∀ (l : List ApiPos) (p : ApiPos) (b : ApiBlock), b ∈ absL p l → okS b
 | [], _, b, h => by simp [absL] at h
 | x :: l, p, b, h => by
  simp only [absL, List.mem_cons] at h
  rcases h with rfl | h
  ·exact okS_bX _
  ·exact absL_ok l _ b h
def smallP (d : ApiPos) : Prop := (-32768 ≤ d.X ∧ d.X ≤ 32767) ∧ (-32768 ≤ d.Y ∧ d.Y ≤ 32767) ∧ (-32768 ≤ d.Z ∧ d.Z ≤ 32767)
theorem ends_bX (x : ApiPos) : endsW (bX x) = false := rfl
theorem ends_end : endsW endB = true := rfl
theorem tgt_abs (k : Int) (x pw : ApiPos) : tgtW (stR k 90000) (bX x) pw = x := rfl
theorem tgt_rel (k : Int) (x pw : ApiPos) : tgtW (stR k 91000) (bX x) pw = addP pw x := rfl
theorem rel_run {t : TableTable} {k : Int} (hk : k = 0 ∨ k = 1000) (ht : t.Lengths.length ≤ 1000) (hv : tb_Valid t = some 0) (N : Nat) : ∀ (ds : List ApiPos) (i : Nat) (o : List ApiMotion) (p pw : ApiPos), (∀ d ∈ ds, smallP d) → inR p → workV t 54000 0 p = (pw, 0) →
  runB t N i (ds.map bX ++ [endB]) (o, p, stR k 91000, zC) = runB t N i (absL pw ds ++ [endB]) (o, p, stR k 90000, zC)
 | [], i, o, p, pw, hs, hp, hw => by
  have hc := checked_0 hv hp
  have h1 := step_end (s := stR k 91000) (t := t) (p := p) (by unfold i64P stR; dsimp only; omega) ht hc
  have h2 := step_end (s := stR k 90000) (t := t) (p := p) (by unfold i64P stR; dsimp only; omega) ht hc
  simp only [absL, List.map_nil, List.nil_append, runB, h1, h2, ends_end]
 | d :: ds, i, o, p, pw, hs, hp, hw => by
  have hc := checked_0 hv hp
  have hd := hs d (by simp)
  have hpw : inR pw := by
   have := workV_in ht 54000 0 p (by rw [hw])
   rw [hw] at this
   exact this
  obtain ⟨d1, d2, d3⟩ := hd
  obtain ⟨w1, w2, w3⟩ := hpw
  have h1 := step_bX (d := 91000) (x := d) hk ht hc hw ⟨⟨by dsimp only; omega, by dsimp only; omega, by dsimp only; omega, by dsimp only; omega⟩, ⟨by dsimp only; omega, by dsimp only; omega, by dsimp only; omega, by dsimp only; omega⟩, ⟨by dsimp only; omega, by dsimp only; omega, by dsimp only; omega, by dsimp only; omega⟩⟩ (tgt_rel k d pw)
  have h2 := step_bX (d := 90000) (x := addP pw d) hk ht hc hw ⟨⟨by dsimp only; omega, by dsimp only; omega, by dsimp only [addP]; omega, by dsimp only [addP]; omega⟩, ⟨by dsimp only; omega, by dsimp only; omega, by dsimp only [addP]; omega, by dsimp only [addP]; omega⟩, ⟨by dsimp only; omega, by dsimp only; omega, by dsimp only [addP]; omega, by dsimp only [addP]; omega⟩⟩ (tgt_abs k (addP pw d) pw)
  simp only [absL, List.map_cons, List.cons_append, runB, h1, h2, ends_bX]
  by_cases z : (machV t 54000 0 (addP pw d)).2 = 0
  ·have hin := machV_in ht 54000 0 _ z
   have hbk := machV_back ht z
   simp only [z, ne_eq, not_true_eq_false, if_false]
   have he : endW p (addM (machV t 54000 0 (addP pw d)).1 (rateK k) 0 0 ([], p)).1 = (machV t 54000 0 (addP pw d)).1 := by
    unfold addM
    dsimp only
    cases y : posEq (machV t 54000 0 (addP pw d)).1 p with
    | true => rw [if_neg (by simp)]; exact (posEq_iff.1 y).symm
    | false => rw [if_pos (by simp)]; rfl
   by_cases y : o.length + (addM (machV t 54000 0 (addP pw d)).1 (rateK k) 0 0 ([], p)).1.length > 20000
   ·simp only [y, if_true]
   ·simp only [y, if_false, Bool.false_eq_true]
    rw [he]
    exact rel_run hk ht hv N ds (i + 1) _ _ _ (fun x hx => hs x (by simp [hx])) hin hbk
  ·simp only [z, ne_eq, not_false_eq_true, if_true, failP]
theorem rel_all {t : TableTable} {k : Int} (hk : k = 0 ∨ k = 1000) (ht : t.Lengths.length ≤ 1000) (hv : tb_Valid t = some 0) (N : Nat) (ds : List ApiPos) (p pw : ApiPos) (hs : ∀ d ∈ ds, smallP d) (hp : inR p) (hw : workV t 54000 0 p = (pw, 0)) :
  runB t N 0 (hdB 91000 k :: ds.map bX ++ [endB]) ([], p, newS, zC) = runB t N 0 (hdB 90000 k :: absL pw ds ++ [endB]) ([], p, newS, zC) := by
 have hc := checked_0 hv hp
 have h1 := step_hd (t := t) (p := p) (d := 91000) (k := k) (.inr rfl) hk ht hc
 have h2 := step_hd (t := t) (p := p) (d := 90000) (k := k) (.inl rfl) hk ht hc
 have e1 : endsW (hdB 91000 k) = false := rfl
 have e2 : endsW (hdB 90000 k) = false := rfl
 simp only [List.cons_append, runB, h1, h2, e1, e2]
 simp only [ne_eq, not_true_eq_false, if_false, List.length_nil, Nat.add_zero, show ¬ (0 > 20000) by omega, Bool.false_eq_true, List.map_nil, List.append_nil]
 exact rel_run hk ht hv N ds 1 [] p pw hs hp hw
end Go.Proofs.YtopjpenbieojmaaDoor
