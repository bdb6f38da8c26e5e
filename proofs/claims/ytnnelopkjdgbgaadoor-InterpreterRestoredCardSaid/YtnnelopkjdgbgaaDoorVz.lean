/-
  Vh, Vj, Vk in one text.
-/
import Derived.Test.YtnnelopkjdgbgaaDoorQe
import Derived.Test.YtnnelopkjdgbgaaDoorVy
import Derived.Test.YtnnelopkjdgbgaaDoorQx
namespace Go.Proofs.YtnnelopkjdgbgaaDoor
open Go.RowKit
end Go.Proofs.YtnnelopkjdgbgaaDoor
namespace Go.Proofs.YtnnelopkjdgbgaaDoor
open Go.RowKit
set_option linter.unusedVariables false
set_option linter.unusedSimpArgs false
def knW (w : ApiWord) : Bool :=
 if w.Letter = 77 then [0,1000,3000,4000,5000,6000,8000,9000,30000].contains w.Value
 else if w.Letter = 83 then decide (w.Value ≥ 0)
 else [71,84,70,72,78,88,89,90,73,74,81,82].contains w.Letter
theorem all_not {α : Type} (p : α → Bool) (l : List α) : (l.any fun x=>!(p x)) = !(l.all p) := by
 induction l with
 | nil=>rfl
 | cons x l ih=>rw [List.any_cons,List.all_cons,ih]; cases p x <;> rfl
theorem known_fin {f : Nat → ApiWord → Unit → Option (Ex (Ex Bool Unit) Unit)} (l : List ApiWord) (hl : l.length ≤ 1000) (hf : ∀ i x,f i x () = if (!(knW x)) = true then some (.ret (.ret false)) else some (.go ())) :
  bindX (guardO (okIdx l) (rangeX f (fun _=>some (.go ())) l 0 ())) (fun (_ : Unit)=>some true) = some (l.all knW) := by
 rw [okIdx_of (by omega),guardO_t,range_any (r := false) l 0 hf,all_not]
 cases l.all knW <;> rfl
theorem inp_known_eq (b : ApiBlock) (hl : b.Words.length ≤ 1000) : inp_known b = some (b.Words.all knW) := by
 unfold inp_known
 refine known_fin b.Words hl (fun i w=>?_)
 rw [contains_eq _ _ (by decide),bindO_s]
 unfold knW
 by_cases h1 : w.Letter = 77
 ·rw [h1,if_pos rfl]
  cases h : ([0,1000,3000,4000,5000,6000,8000,9000,30000] : List Int).contains w.Value <;> rfl
 ·rw [if_neg h1]
  by_cases h2 : w.Letter = 83
  ·rw [h2,if_pos rfl]
   by_cases h : w.Value < 0
   ·rw [decide_eq_true h,decide_eq_false (show ¬ w.Value ≥ 0 by omega)]; rfl
   ·rw [decide_eq_false h,decide_eq_true (show w.Value ≥ 0 by omega)]; rfl
  ·rw [if_neg h2,beq_false_of_ne h1,beq_false_of_ne h2]
   by_cases a1 : w.Letter = 71
   ·rw [a1]; rfl
   by_cases a2 : w.Letter = 84
   ·rw [a2]; rfl
   by_cases a3 : w.Letter = 70
   ·rw [a3]; rfl
   by_cases a4 : w.Letter = 72
   ·rw [a4]; rfl
   by_cases a5 : w.Letter = 78
   ·rw [a5]; rfl
   by_cases a6 : w.Letter = 88
   ·rw [a6]; rfl
   by_cases a7 : w.Letter = 89
   ·rw [a7]; rfl
   by_cases a8 : w.Letter = 90
   ·rw [a8]; rfl
   by_cases a9 : w.Letter = 73
   ·rw [a9]; rfl
   by_cases b1 : w.Letter = 74
   ·rw [b1]; rfl
   by_cases b2 : w.Letter = 81
   ·rw [b2]; rfl
   by_cases b3 : w.Letter = 82
   ·rw [b3]; rfl
   simp [a1,a2,a3,a4,a5,a6,a7,a8,a9,b1,b2,b3]
def crd (b : ApiBlock) (l a d : Int) : Int := if (findW b l).2 = true then (if d = 90000 then (findW b l).1 else a + (findW b l).1) else a
def tgtW (s : ModalState) (b : ApiBlock) (p : ApiPos) : ApiPos := ⟨crd b 88 p.X s.Distance,crd b 89 p.Y s.Distance,crd b 90 p.Z s.Distance⟩
theorem crd_bd {b : ApiBlock} (hv : validP b) {a : Int} (h : -10000000 ≤ a ∧ a ≤ 10000000) (l d : Int) : -1000010000000 ≤ crd b l a d ∧ crd b l a d ≤ 1000010000000 := by
 have := findW_bd hv l
 unfold crd
 split
 ·split <;> omega
 ·omega
theorem inp_crd {b : ApiBlock} (hv : validP b) (hl : b.Words.length ≤ 1000) {a : Int} (h : -10000000 ≤ a ∧ a ≤ 10000000) (l d : Int) : (bindO (bk_Find b l) fun (y : Int × Bool)=>if (!y.2) = true then some a else if (d == 90000) = true then some y.1 else some (IntKind.i64.wrap (a + y.1))) = some (crd b l a d) := by
 have := findW_bd hv l
 rw [bk_Find_eq b l hl,bindO_s]
 unfold crd
 cases (findW b l).2 with
 | false=>rfl
 | true =>
  by_cases hd : d = 90000
  ·rw [hd]; rfl
  ·rw [beq_false_of_ne hd,if_pos rfl,if_neg hd,wrap_i64 (by omega) (by omega)]; rfl
theorem inp_target_eq {s : ModalState} {b : ApiBlock} {p : ApiPos} (hv : validP b) (hl : b.Words.length ≤ 1000) (hp : inR p) : inp_target s b p = some (tgtW s b p) := by
 unfold inp_target
 rw [inp_crd hv hl hp.1,bindO_s,inp_crd hv hl hp.2.1,bindO_s,inp_crd hv hl hp.2.2,bindO_s]
 rfl
def cycB (k : Int) : Bool := (k == 81000) || ((k == 82000) || (k == 83000))
def mvV (s : ModalState) (b : ApiBlock) (p : ApiPos) : ApiMove := ⟨if s.Motion = 3000 then 4 else 3,tgtW s b p,⟨p.X + (findW b 73).1,p.Y + (findW b 74).1⟩,s.Feed⟩
def iniW (c : CycleCycle) (p : ApiPos) : Int := if ((c.Code == 0) && ((c.R == 0) && ((c.Z == 0) && ((c.Q == 0) && ((c.Rate == 0) && ((c.Initial == 0) && (c.High == false))))))) = true then p.Z else c.Initial
def rdC (s : ModalState) (c : CycleCycle) (b : ApiBlock) (p : ApiPos) : CycleCycle :=
 CycleCycle.mk s.Motion (if (findW b 82).2 = true then (findW b 82).1 else c.R) (if (findW b 90).2 = true then (findW b 90).1 else c.Z) (if (findW b 81).2 = true then (findW b 81).1 else c.Q) (if (findW b 70).2 = true then (findW b 70).1 else s.Feed) (iniW c p) (s.Return == 98000)
def reM (m : ApiMove) : InterpreterReached := ⟨m.To,m.Rate⟩
def posV (s : ModalState) (c : CycleCycle) (b : ApiBlock) (p : ApiPos) : List InterpreterReached × CycleCycle × Int :=
  if s.Motion = 0 then ([⟨tgtW s b p,0⟩],zC,0)
  else if s.Motion = 1000 then ([⟨tgtW s b p,s.Feed⟩],zC,0)
  else if cycB s.Motion = true then
    (if cycV (rdC s c b p) ≠ 0 then ([],zC,cycV (rdC s c b p))
     else if (expV (rdC s c b p) p ⟨(tgtW s b p).X,(tgtW s b p).Y⟩).2 ≠ 0 then ([],zC,(expV (rdC s c b p) p ⟨(tgtW s b p).X,(tgtW s b p).Y⟩).2)
     else ((expV (rdC s c b p) p ⟨(tgtW s b p).X,(tgtW s b p).Y⟩).1.map reM,rdC s c b p,0))
  else if movV p (mvV s b p) = 0 then ((arcL p (mvV s b p)).map fun q=>⟨q,s.Feed⟩,zC,0)
  else ([],zC,movV p (mvV s b p))
theorem mvV_ok {s : ModalState} {b : ApiBlock} {p : ApiPos} (hv : validP b) (hp : inR p) (hf : i64P s.Feed) : okPos p ∧ okMove (mvV s b p) := by
 obtain ⟨p1,p2,p3⟩ := hp
 have a1 := crd_bd hv p1 88 s.Distance
 have a2 := crd_bd hv p2 89 s.Distance
 have a3 := crd_bd hv p3 90 s.Distance
 have b1 := findW_bd hv 73
 have b2 := findW_bd hv 74
 refine ⟨⟨i64_of p1,i64_of p2,i64_of p3⟩,?_,⟨?_,?_,?_⟩,?_,?_,hf⟩
 ·unfold mvV i64P; dsimp only; split <;> omega
 ·unfold mvV tgtW i64P; dsimp only; omega
 ·unfold mvV tgtW i64P; dsimp only; omega
 ·unfold mvV tgtW i64P; dsimp only; omega
 ·unfold mvV i64P; dsimp only; omega
 ·unfold mvV i64P; dsimp only; omega
theorem mvV_kind (s : ModalState) (b : ApiBlock) (p : ApiPos) : (mvV s b p).Kind = 3 ∨ (mvV s b p).Kind = 4 := by
 unfold mvV; dsimp only; split
 ·exact .inr rfl
 ·exact .inl rfl
theorem arc_ok {p : ApiPos} {m : ApiMove} (hk : m.Kind = 3 ∨ m.Kind = 4) (h : movV p m = 0) : ArcOk p m := by
 unfold movV at h
 rw [if_neg (by omega)] at h
 by_cases e2 : (m.Kind = 3 ∨ m.Kind = 4) ∧ m.Rate > 0 ∧ rad p m.Center > 0 ∧ rad p m.Center = rad m.To m.Center
 ·rw [if_pos e2] at h
  by_cases f : (far6 p m.To || farP m.Center.X || farP m.Center.Y || farP (m.Center.X + rad p m.Center) || farP (m.Center.X - rad p m.Center) || farP (m.Center.Y + rad p m.Center) || farP (m.Center.Y - rad p m.Center)) = true
  ·rw [if_pos f] at h; cases h
  ·have f' : (far6 p m.To || farP m.Center.X || farP m.Center.Y || farP (m.Center.X + rad p m.Center) || farP (m.Center.X - rad p m.Center) || farP (m.Center.Y + rad p m.Center) || farP (m.Center.Y - rad p m.Center)) = false := by simpa using f
   simp only [Bool.or_eq_false_iff,far6] at f'
   obtain ⟨⟨⟨⟨⟨⟨⟨⟨⟨⟨⟨g1,g2⟩,g3⟩,g4⟩,g5⟩,g6⟩,fx⟩,fy⟩,h1⟩,h2⟩,h3⟩,h4⟩ := f'
   have k1 := far_bd h1; have k2 := far_bd h2; have k3 := far_bd h3; have k4 := far_bd h4
   exact ⟨hk,far_bd g1,far_bd g2,far_bd g3,far_bd g4,far_bd g5,far_bd g6,far_bd fx,far_bd fy,by omega,e2.2.2.2,by omega,by omega⟩
 ·rw [if_neg e2] at h; cases h
theorem ip_Arc_bad {p : ApiPos} {m : ApiMove} (hk : m.Kind = 3 ∨ m.Kind = 4) (hp : okPos p) (hm : okMove m) (h : movV p m ≠ 0) : ip_Arc p m = some ([],movV p m) := by
 have hQ : ip_Quarters p m = some (0,movV p m) := by
  unfold ip_Quarters ip_isArc
  have hk' : ((m.Kind == 3) || (m.Kind == 4)) = true := by simpa using hk
  rw [hk',bindO_s,if_neg (by simp)]
  show bindO (ip_Valid p m) _ = _
  rw [ip_Valid_eq hp hm,bindO_s,if_pos (by simpa using h)]
 unfold ip_Arc
 show bindO (ip_Quarters p m) _ = _
 rw [hQ,bindO_s,if_pos (by simpa using h)]
theorem map_loop {α β : Type} (g : α → β) (l : List α) (hl : l.length ≤ 1000000) : (guardO (okIdx l) (rangeX (fun (i : Nat) (e : α) (v : List β)=>guardO (okLen (v.length + 1)) (some (.go (v ++ [g e])))) (fun v=>some v) l 0 [])) = some (l.map g) := by
 rw [okIdx_of (by omega),guardO_t,range_fold (g := fun (o : List β) (x : α)=>o ++ [g x]) (R := fun i v=>v.length ≤ i) (L := l) ?_ l 0 [] rfl (by simp)]
 ·rw [map_fold]; rfl
 ·intro i x v hx hr
  have hlt := getElem_lt hx
  rw [okLen_of (by omega),guardO_t]
  exact ⟨rfl,by simp; omega⟩
theorem expV_len (c : CycleCycle) (p : ApiPos) (g : ApiGrid2) : (expV c p g).1.length ≤ 2010 := by
 unfold expV
 split
 ·split
  ·simp
  ·rename_i h _
   exact cycM_len (cycV_ok h) p g
 ·simp
theorem arcL_len {p : ApiPos} {m : ApiMove} (h : ArcOk p m) : (arcL p m).length ≤ 4000 := by
 have := h.all
 unfold arcL; simp; omega
theorem posV_len (s : ModalState) (c : CycleCycle) (b : ApiBlock) (p : ApiPos) : (posV s c b p).1.length ≤ 4000 := by
 unfold posV
 split
 ·simp
 ·split
  ·simp
  ·split
   ·split
    ·simp
    ·split
     ·simp
     ·have := expV_len (rdC s c b p) p ⟨(tgtW s b p).X,(tgtW s b p).Y⟩
      simp; omega
   ·split
    ·rename_i h
     have := arcL_len (arc_ok (mvV_kind s b p) h)
     simp; omega
    ·simp
theorem inp_positions_eq {s : ModalState} {c : CycleCycle} {b : ApiBlock} {p : ApiPos} (hv : validP b) (hl : b.Words.length ≤ 1000) (hp : inR p) (hf : i64P s.Feed) : inp_positions s c b p = some (posV s c b p) := by
 unfold inp_positions posV
 rw [show ApiBlock.mk b.Skip b.Words b.Comment = b from rfl,inp_target_eq hv hl hp,bindO_s]
 by_cases m0 : s.Motion = 0
 ·rw [if_pos (by simpa using m0),if_pos m0]; rfl
 rw [if_neg (by simpa using m0),if_neg m0]
 by_cases m1 : s.Motion = 1000
 ·rw [if_pos (by simpa using m1),if_pos m1]; rfl
 rw [if_neg (by simpa using m1),if_neg m1]
 unfold inp_cycles
 rw [bindO_s]
 by_cases mc : cycB s.Motion = true
 ·rw [if_pos (show ((s.Motion == 81000) || ((s.Motion == 82000) || (s.Motion == 83000))) = true from mc),if_pos mc]
  have hcan : inp_canned s c b p (tgtW s b p) = some (if cycV (rdC s c b p) ≠ 0 then ([],zC,cycV (rdC s c b p))
    else if (expV (rdC s c b p) p ⟨(tgtW s b p).X,(tgtW s b p).Y⟩).2 ≠ 0 then ([],zC,(expV (rdC s c b p) p ⟨(tgtW s b p).X,(tgtW s b p).Y⟩).2)
    else ((expV (rdC s c b p) p ⟨(tgtW s b p).X,(tgtW s b p).Y⟩).1.map reM,rdC s c b p,0)) := by
   unfold inp_canned
   have hi : (if (!((c.Code == 0) && ((c.R == 0) && ((c.Z == 0) && ((c.Q == 0) && ((c.Rate == 0) && ((c.Initial == 0) && (c.High == false)))))))) = true then some c.Initial else some p.Z) = some (iniW c p) := by
    unfold iniW
    cases ((c.Code == 0) && ((c.R == 0) && ((c.Z == 0) && ((c.Q == 0) && ((c.Rate == 0) && ((c.Initial == 0) && (c.High == false))))))) <;> rfl
   obtain ⟨n,hn,hn2⟩ := cy_Read_same b s.Motion s.Feed (iniW c p) (s.Return == 98000) c hl
   have hn3 : n = rdC s c b p := hn2
   subst hn3
   rw [hi,bindO_s,hn,bindO_s]
   by_cases z : cycV (rdC s c b p) = 0
   ·rw [if_pos z,if_neg (by simp),cy_Expand_one,bindO_s,if_neg (show ¬ (cycV (rdC s c b p) ≠ 0) by simpa using z)]
    by_cases y : (expV (rdC s c b p) p ⟨(tgtW s b p).X,(tgtW s b p).Y⟩).2 = 0
    ·rw [if_neg (by simpa using y),if_neg (by simpa using y),map_loop (fun e : ApiMove=>InterpreterReached.mk e.To e.Rate) _ (Nat.le_trans (expV_len (rdC s c b p) p ⟨(tgtW s b p).X,(tgtW s b p).Y⟩) (by decide)),bindO_s]
     rfl
    ·rw [if_pos (by simpa using y),if_pos (by simpa using y)]; rfl
   ·rw [if_neg z,if_pos (by simpa using z),if_pos z]; rfl
  show bindO (inp_canned s c b p (tgtW s b p)) _ = _
  rw [hcan,bindO_s]
 ·rw [if_neg (show ¬ ((s.Motion == 81000) || ((s.Motion == 82000) || (s.Motion == 83000))) = true from mc),if_neg mc]
  obtain ⟨op,om⟩ := mvV_ok (s := s) hv hp hf
  have hb1 := findW_bd hv 73
  have hb2 := findW_bd hv 74
  obtain ⟨p1,p2,p3⟩ := hp
  have harc : inp_arc s b p (tgtW s b p) = some (if movV p (mvV s b p) = 0 then ((arcL p (mvV s b p)).map fun q=>⟨q,s.Feed⟩,0) else ([],movV p (mvV s b p))) := by
   unfold inp_arc
   rw [inp_value_eq b 73 hl,bindO_s,inp_value_eq b 74 hl,bindO_s]
   have hk : (if (s.Motion == 3000) = true then some (4 : Int) else some 3) = some (if s.Motion = 3000 then 4 else 3) := by
    by_cases q : s.Motion = 3000
    ·rw [if_pos (by simpa using q),if_pos q]
    ·rw [if_neg (by simpa using q),if_neg q]
   rw [hk,bindO_s,wrap_i64 (n := p.X + (findW b 73).1) (by omega) (by omega),wrap_i64 (n := p.Y + (findW b 74).1) (by omega) (by omega)]
   show bindO (ip_Arc p (mvV s b p)) _ = _
   by_cases z : movV p (mvV s b p) = 0
   ·have ok := arc_ok (mvV_kind s b p) z
    rw [ip_Arc_eq ok op om z,bindO_s,if_pos z,map_loop (fun e : ApiPos=>InterpreterReached.mk e s.Feed) _ (Nat.le_trans (arcL_len ok) (by decide)),bindO_s]
   ·rw [ip_Arc_bad (mvV_kind s b p) op om z,bindO_s,if_neg z]
    rfl
  show bindO (inp_arc s b p (tgtW s b p)) _ = _
  rw [harc,bindO_s]
  by_cases z : movV p (mvV s b p) = 0
  ·rw [if_pos z,if_pos z]; rfl
  ·rw [if_neg z,if_neg z]; rfl
end Go.Proofs.YtnnelopkjdgbgaaDoor
namespace Go.Proofs.YtnnelopkjdgbgaaDoor
open Go.RowKit
set_option linter.unusedVariables false
set_option linter.unusedSimpArgs false
def machV (t : TableTable) (w n : Int) (q : ApiPos) : ApiPos × Int := (tb_Machine t w n q).getD (⟨0,0,0⟩,1)
theorem machV_eq {t : TableTable} (ht : t.Lengths.length ≤ 1000) (w n : Int) (q : ApiPos) : tb_Machine t w n q = some (machV t w n q) := by
 obtain ⟨e,h,_⟩ := tb_Machine_tot t w n q ht
 unfold machV; rw [h]; rfl
def addM (r : ApiPos) (rate tool i : Int) (v : List ApiMotion × ApiPos) : List ApiMotion × ApiPos := (if (!posEq r v.2) = true then v.1 ++ [ApiMotion.mk v.2 r rate tool i] else v.1,r)
def runM (t : TableTable) (w n tool i : Int) : List InterpreterReached → List ApiMotion × ApiPos → Ex Int (List ApiMotion × ApiPos)
 | [],v=>.go v
 | x :: l,v=>if (machV t w n x.at_).2 ≠ 0 then .ret (machV t w n x.at_).2 else runM t w n tool i l (addM (machV t w n x.at_).1 x.rate tool i v)
theorem addM_len (r : ApiPos) (rate tool i : Int) (v : List ApiMotion × ApiPos) : (addM r rate tool i v).1.length ≤ v.1.length + 1 := by
 unfold addM; dsimp only; split <;> simp
theorem runM_ret (t : TableTable) (w n tool i : Int) : ∀ (l : List InterpreterReached) (v : List ApiMotion × ApiPos) (e : Int),runM t w n tool i l v = .ret e → e ≠ 0
 | [],v,e,h=>by cases h
 | x :: l,v,e,h=>by
  simp only [runM] at h
  by_cases q : (machV t w n x.at_).2 = 0
  ·rw [if_neg (by simpa using q)] at h
   exact runM_ret t w n tool i l _ e h
  ·rw [if_pos q] at h
   injection h with h
   rw [← h]; exact q
theorem run_loop {α σ ε : Type} {f : Nat → α → σ → Option (Ex ε σ)} {d : σ → Option ε} {t : TableTable} {w n tool i : Int} (emb : List ApiMotion × ApiPos → σ) (pr : α → InterpreterReached) (g : Int → ε)
  (hf : ∀ (k : Nat) x (v : List ApiMotion × ApiPos),v.1.length ≤ 300000 → f k x (emb v) = some (if (machV t w n (pr x).at_).2 ≠ 0 then .ret (g (machV t w n (pr x).at_).2) else .go (emb (addM (machV t w n (pr x).at_).1 (pr x).rate tool i v)))) :
  ∀ (l : List α) (k : Nat) (v : List ApiMotion × ApiPos),v.1.length + l.length ≤ 300000 → rangeX f d l k (emb v) = match runM t w n tool i (l.map pr) v with | .ret e=>some (g e) | .go u=>d (emb u)
 | [],k,v,_=>rfl
 | x :: l,k,v,hv=>by
  simp only [List.length_cons] at hv
  simp only [rangeX,hf k x v (by omega),List.map_cons,runM]
  by_cases h : (machV t w n (pr x).at_).2 = 0
  ·rw [if_neg (by simpa using h),if_neg (by simpa using h)]
   have := addM_len (machV t w n (pr x).at_).1 (pr x).rate tool i v
   exact run_loop emb pr g hf l (k + 1) _ (by omega)
  ·rw [if_pos h,if_pos h]
theorem run_fin {R : Type} {f : Nat → InterpreterReached → List ApiMotion × ApiPos → Option (Ex (Ex R (List ApiMotion × ApiPos)) (List ApiMotion × ApiPos))} {L : List InterpreterReached} {v : List ApiMotion × ApiPos} {k : List ApiMotion × ApiPos → Option R} (t : TableTable) (w n tool i : Int) (g : Int → R) (hL : v.1.length + L.length ≤ 300000)
  (hf : ∀ (j : Nat) x (v : List ApiMotion × ApiPos),v.1.length ≤ 300000 → f j x v = some (if (machV t w n x.at_).2 ≠ 0 then .ret (.ret (g (machV t w n x.at_).2)) else .go (addM (machV t w n x.at_).1 x.rate tool i v))) :
  bindX (guardO (okIdx L) (rangeX f (fun v=>some (.go (v.1,v.2))) L 0 v)) k = match runM t w n tool i L v with | .ret e=>some (g e) | .go u=>k u := by
 have h := run_loop (t := t) (w := w) (n := n) (tool := tool) (i := i) (f := f) (d := fun v=>some (.go (v.1,v.2))) (fun v=>v) (fun x=>x) (fun e=>Ex.ret (g e)) hf L 0 v hL
 rw [okIdx_of (by omega),guardO_t,h,List.map_id']
 cases runM t w n tool i L v <;> rfl
theorem unit_s {β : Type} (f : Unit → Option β) : bindO (some ()) f = f () := rfl
theorem ijqr (hI hQ cy a b : Bool) : (if hI = true then (if a = true then (if b = true then some true else if hQ = true then some (!cy) else some false) else if hQ = true then some (!cy) else some false) else if hQ = true then some (!cy) else some false) = some ((hI && a && b) || (hQ && !cy)) := by
 cases hI <;> cases hQ <;> cases cy <;> cases a <;> cases b <;> rfl
theorem put_feed {s : ModalState} {w : ApiWord} (h : i64P s.Feed) (hw : i64P w.Value) : i64P (putW s w).Feed := by
 unfold putW
 by_cases h1 : w.Letter = 71
 ·rw [if_pos h1]
  by_cases g1 : grp w.Value = 1
  ·rw [if_pos g1]; exact h
  ·rw [if_neg g1]
   by_cases g2 : grp w.Value = 2
   ·rw [if_pos g2]; exact h
   ·rw [if_neg g2]
    by_cases g3 : grp w.Value = 3
    ·rw [if_pos g3]; exact h
    ·rw [if_neg g3]
     by_cases g4 : grp w.Value = 4
     ·rw [if_pos g4]; exact h
     ·rw [if_neg g4]; exact h
 ·rw [if_neg h1]
  by_cases h2 : w.Letter = 70
  ·rw [if_pos h2]; exact hw
  ·rw [if_neg h2]
   by_cases h3 : w.Letter = 84
   ·rw [if_pos h3]; exact h
   ·rw [if_neg h3]
    by_cases h4 : w.Letter = 72
    ·rw [if_pos h4]; exact h
    ·rw [if_neg h4]; exact h
theorem fold_feed : ∀ (l : List ApiWord) (s : ModalState),i64P s.Feed → (∀ w ∈ l,i64P w.Value) → i64P (l.foldl putW s).Feed
 | [],_,h,_=>h
 | w :: l,s,h,hw=>fold_feed l _ (put_feed h (hw w (by simp))) (fun x hx=>hw x (by simp [hx]))
end Go.Proofs.YtnnelopkjdgbgaaDoor
