/-
  Vh, Vj, Vk, Vl in one text.
-/
import Derived.Test.YtopjpenbieojmaaGreatDoorQe
import Derived.Test.YtopjpenbieojmaaGreatDoorVy
import Derived.Test.YtopjpenbieojmaaGreatDoorQx
namespace Go.Proofs.YtopjpenbieojmaaGreatDoor
open Go.RowKit
def asc (L : List TableLength) (i : Nat) : Prop := ∀ a b x y,a < b → b < i → L[a]? = some x → L[b]? = some y → x.Number < y.Number
theorem tb_Valid_asc (t : TableTable) (hl : t.Lengths.length ≤ 1000) (h : tb_Valid t = some 0) : asc t.Lengths t.Lengths.length := by
 have key : Tot (tb_Valid t) (fun e=>e = 0 → asc t.Lengths t.Lengths.length) := by
  unfold tb_Valid
  simp only [tb_far_eq,bindO_s]
  refine Tot.bind (E := fun _=>True) (Tot.bind (E := fun _=>True) (Tot.bindX (E := fun _=>True) ?_ (fun _ _=>.ok trivial)) (fun i _=>.ok trivial)) (fun b _=>Tot.ite (fun _=>.ok (by simp)) (fun _=>?_))
  ·repeat' (first | exact TotX.ret trivial | exact TotX.go trivial | refine TotX.ite (fun _=>?_) (fun _=>?_))
  ·refine Tot.bindX (E := fun _=>asc t.Lengths t.Lengths.length) (TotX.guard (okIdx_of (by omega)) (TotX.of (Tot.range (fun i _=>asc t.Lengths i) _ (fun a b x y h1 h2=>by omega) (fun i x v hx hr=>?_) (fun v hr=>.ok hr)))) (fun _ h=>.ok fun _=>h)
   have hlt := getElem_lt hx
   refine TotX.bind (E := fun b=>b = true ∨ ∀ y,i > 0 → t.Lengths[i - 1]? = some y → y.Number < x.Number) ?_ (fun b hb=>TotX.ite (fun _=>.ret (by simp)) (fun hf=>.go ?_))
   ·unfold tb_entry
    rw [bindO_s]
    refine Tot.ite (fun _=>?_) (fun _=>.ok (.inl rfl))
    refine Tot.ite (fun hi=>?_) (fun hi=>.ok (.inr fun y h0=>by simp at hi; omega))
    simp at hi
    rw [wrap_i64 (by omega) (by omega),show ((i : Int) - 1) = ((i - 1 : Nat) : Int) by omega]
    obtain ⟨y,hy⟩ : ∃ y,t.Lengths[i - 1]? = some y := ⟨_,List.getElem?_eq_getElem (by omega)⟩
    rw [gt_k hy,bindO_s]
    by_cases hq : y.Number ≥ x.Number
    ·exact .ok (.inl (by simpa using hq))
    ·refine .ok (.inr fun z _ hz=>?_)
     rw [hy] at hz; injection hz with hz; subst hz; omega
   ·have hb' := hb.resolve_left (by simp [hf])
    intro a b y z h1 h2 hy hz
    rcases Nat.lt_or_ge b i with q | q
    ·exact hr a b y z h1 q hy hz
    ·obtain rfl : b = i := by omega
     rw [hx] at hz; injection hz with hz; subst hz
     obtain ⟨u,hu⟩ : ∃ u,t.Lengths[b - 1]? = some u := ⟨_,List.getElem?_eq_getElem (by omega)⟩
     have h3 := hb' u (by omega) hu
     rcases Nat.lt_or_ge a (b - 1) with q2 | q2
     ·have := hr a (b - 1) y u q2 (by omega) hy hu
      omega
     ·obtain rfl : a = b - 1 := by omega
      rw [hy] at hu; injection hu with hu; subst hu; exact h3
 obtain ⟨e,h1,h2⟩ := key
 rw [h] at h1; injection h1 with h1
 exact h2 h1.symm
def placed (L : List TableLength) (n : Int) (r : Int × Bool) : Prop := 0 ≤ r.1 ∧ r.1 ≤ (L.length : Int) ∧ (∀ (k : Nat) x,L[k]? = some x → ((k : Int) < r.1 → x.Number < n) ∧ (r.1 ≤ (k : Int) → n ≤ x.Number)) ∧ (r.2 = true ↔ ∃ x,L[r.1.toNat]? = some x ∧ x.Number = n)
theorem tb_find_at (t : TableTable) (n : Int) (hl : t.Lengths.length ≤ 1000) (hs : asc t.Lengths t.Lengths.length) : Tot (tb_find t n) (placed t.Lengths n) := by
 unfold tb_find
 refine Tot.bind (E := placed t.Lengths n) (Tot.bind (E := fun v : Int=>0 ≤ v ∧ v ≤ (t.Lengths.length : Int) ∧ ∀ (k : Nat) x,t.Lengths[k]? = some x → ((k : Int) < v → x.Number < n) ∧ (v ≤ (k : Int) → n ≤ x.Number)) ?_ (fun v hv=>?_)) (fun r hr=>.ok hr)
 ·refine Tot.loop (fun m v=>0 ≤ v.1 ∧ v.1 ≤ v.2 ∧ v.2 ≤ (t.Lengths.length : Int) ∧ m = (v.2 - v.1).toNat ∧ ∀ (k : Nat) x,t.Lengths[k]? = some x → ((k : Int) < v.1 → x.Number < n) ∧ (v.2 ≤ (k : Int) → n ≤ x.Number)) _ t.Lengths.length (fuel_gt (by omega)) ⟨by simp,by simp,by simp,by simp,fun k x hx=>⟨fun q=>by simp at q,fun q=>by have := getElem_lt hx; simp at q; omega⟩⟩ (fun m v hr=>?_)
  obtain ⟨a,b,c,d,hk⟩ := hr
  refine TotX.ite (fun h=>?_) (fun h=>.ret ?_)
  ·simp at h
   rw [mid_eq a (by omega) (by omega) (by omega)]
   obtain ⟨y,hy,hy2⟩ := gt_ok' (l := t.Lengths) (i := (v.1 + v.2) / 2) (by omega) (by omega)
   rw [hy,bindO_s]
   unfold tb_find_c1
   rw [compare_eq,bindO_s,bindO_s]
   have hm : ((((v.1 + v.2) / 2).toNat : Nat) : Int) = (v.1 + v.2) / 2 := by omega
   refine TotX.ite (fun hc=>.go ?_) (fun hc=>.go ?_)
   ·have hlt : y.Number < n := by
     by_cases q : y.Number < n
     ·exact q
     ·rw [if_neg q] at hc; split at hc <;> simp at hc
    rw [wrap_i64 (by omega) (by omega)]
    refine ⟨_,by omega,by simp; omega,by simp; omega,c,rfl,fun k x hx=>⟨fun q=>?_,fun q=>(hk k x hx).2 q⟩⟩
    simp only at q
    rcases Nat.lt_or_ge k ((v.1 + v.2) / 2).toNat with z | z
    ·have := hs k _ x y z (getElem_lt hy2) hx hy2; omega
    ·obtain rfl : k = ((v.1 + v.2) / 2).toNat := by omega
     rw [hy2] at hx; injection hx with hx; subst hx; exact hlt
   ·have hge : n ≤ y.Number := by
     by_cases q : y.Number < n
     ·rw [if_pos q] at hc; simp at hc
     ·omega
    refine ⟨_,by omega,a,by simp; omega,by simp; omega,rfl,fun k x hx=>⟨fun q=>(hk k x hx).1 q,fun q=>?_⟩⟩
    simp only at q
    rcases Nat.lt_or_ge ((v.1 + v.2) / 2).toNat k with z | z
    ·have := hs _ k y x z (getElem_lt hx) hy2 hx; omega
    ·obtain rfl : k = ((v.1 + v.2) / 2).toNat := by omega
     rw [hy2] at hx; injection hx with hx; subst hx; exact hge
  ·simp at h
   have : v.1 = v.2 := by omega
   exact ⟨a,by omega,fun k x hx=>⟨(hk k x hx).1,fun q=>(hk k x hx).2 (by omega)⟩⟩
 ·obtain ⟨v0,v1,vk⟩ := hv
  refine Tot.bind (E := fun b=>b = true ↔ ∃ x,t.Lengths[v.toNat]? = some x ∧ x.Number = n) (Tot.ite (fun h=>?_) (fun h=>.ok ?_)) (fun b hb=>.ok ⟨v0,v1,vk,hb⟩)
  ·simp at h
   obtain ⟨y,hy,hy2⟩ := gt_ok' (l := t.Lengths) (i := v) v0 h
   rw [hy,bindO_s]
   unfold tb_find_c1
   rw [compare_eq,bindO_s,bindO_s]
   have hge := (vk _ y hy2).2 (by omega)
   refine .ok ?_
   rw [hy2]
   rw [if_neg (by omega)]
   by_cases q : y.Number > n
   ·rw [if_pos q]
    simp; omega
   ·rw [if_neg q]
    simp; omega
  ·simp at h
   have : t.Lengths[v.toNat]? = none := by rw [List.getElem?_eq_none]; omega
   rw [this]; simp
def lenW (L : List TableLength) (n : Int) : Int × Int := if n = 0 then (0,0) else match L.find? (fun x=>x.Number == n) with | some x=>(x.Length,0) | none=>(0,4)
theorem tb_length_eq (t : TableTable) (n : Int) (hl : t.Lengths.length ≤ 1000) (hs : asc t.Lengths t.Lengths.length) : tb_length t n = some (lenW t.Lengths n) := by
 unfold tb_length lenW
 by_cases h0 : n = 0
 ·simp [h0]
 ·have : (n == 0) = false := by simpa using h0
  simp only [this,Bool.false_eq_true,if_false,h0]
  obtain ⟨r,hr,p0,p1,p2,p3⟩ := tb_find_at ⟨t.Work,t.Lengths⟩ n hl hs
  rw [hr,bindO_s]
  cases hb : r.2 with
  | true =>
   obtain ⟨x,hx,hxn⟩ := p3.1 hb
   simp only at hx
   have hg : gt t.Lengths r.1 = some x := by unfold gt; rw [if_neg (by omega)]; exact hx
   have hf : t.Lengths.find? (fun x=>x.Number == n) = some x := by
    rw [List.find?_eq_some_iff_getElem]
    refine ⟨by simpa using hxn,r.1.toNat,getElem_lt hx,?_,?_⟩
    ·have := List.getElem?_eq_getElem (getElem_lt hx)
     rw [this] at hx; injection hx
    ·intro j hj
     have hlt := getElem_lt hx
     have := (p2 j t.Lengths[j] (List.getElem?_eq_getElem (by omega))).1 (by omega)
     simp; omega
   simp only [Bool.not_true,Bool.false_eq_true,if_false,hg,bindO_s,hf]
  | false =>
   have hf : t.Lengths.find? (fun x=>x.Number == n) = none := by
    rw [List.find?_eq_none]
    intro x hx
    obtain ⟨k,hk⟩ := List.mem_iff_getElem?.1 hx
    simp only [beq_iff_eq]
    intro e
    have hq := p2 k x hk
    rcases Int.lt_or_le (k : Int) r.1 with z | z
    ·have := hq.1 z; omega
    ·rcases Nat.lt_or_ge r.1.toNat k with z2 | z2
     ·obtain ⟨y,hy⟩ : ∃ y,t.Lengths[r.1.toNat]? = some y := ⟨_,List.getElem?_eq_getElem (by have := getElem_lt hk; omega)⟩
      have h1 := (p2 _ y hy).2 (by omega)
      have h2 := hs _ k y x z2 (getElem_lt hk) hy hk
      omega
     ·obtain rfl : k = r.1.toNat := by omega
      have := p3.2 ⟨x,hk,e⟩
      rw [hb] at this; cases this
   simp only [Bool.not_false,if_true,hf]
theorem shift_same (t : R45Table) (c n : Int) (hl : t.Lengths.length ≤ 1000) : tb_offset (theirsW t) c n = r45_shift t c n := by
 unfold tb_offset r45_shift
 rw [valid_same t hl]
 obtain ⟨e,he,he2⟩ := r45_Valid_tot t hl
 rw [he,bindO_s,bindO_s]
 rcases he2 with rfl | rfl
 ·have hv : tb_Valid (theirsW t) = some 0 := by rw [valid_same t hl]; exact he
  have hs := tb_Valid_asc (theirsW t) (by simp [theirsW]; omega) hv
  simp only [bne_self_eq_false,Bool.false_eq_true,if_false]
  rw [show tb_length (TableTable.mk (theirsW t).Work (theirsW t).Lengths) n = some (lenW (theirsW t).Lengths n) from tb_length_eq (theirsW t) n (by simp [theirsW]; omega) hs]
  unfold tb_slot r45_index
  have hcond : ((Int.tmod c 1000 != 0) || (decide (c < 54000) || decide (c > 59000))) = (decide (c < 54000) || (decide (c > 59000) || (Int.tmod c 1000 != 0))) := by
   cases (Int.tmod c 1000 != 0) <;> cases decide (c < 54000) <;> cases decide (c > 59000) <;> rfl
  rw [hcond]
  cases hb : (decide (c < 54000) || (decide (c > 59000) || (Int.tmod c 1000 != 0))) with
  | true=>simp
  | false =>
   simp at hb
   have hd : Int.tdiv c 1000 = c / 1000 := Int.tdiv_eq_ediv_of_nonneg (by omega)
   have hw : IntKind.i64.wrap (IntKind.i64.wrap (Int.tdiv c 1000) - 54) = c / 1000 - 54 := by
    rw [hd,wrap_i64 (n := c / 1000) (by omega) (by omega),wrap_i64 (by omega) (by omega)]
   simp only [Bool.false_eq_true,if_false,hw,bindO_s,bne_self_eq_false,Bool.false_or]
   have hneg : decide (c / 1000 - 54 < 0) = false := by simp; omega
   have hin : decide (0 ≤ c / 1000 - 54 ∧ c / 1000 - 54 < 6) = true := by simp; omega
   simp only [hneg,hin,guardO_t,Bool.false_eq_true,if_false]
   have hfind : (theirsW t).Lengths.find? (fun x=>x.Number == n) = (t.Lengths.find? (fun x=>x.Number == n)).map (fun l=>⟨l.Number,l.Length⟩) := by
    simp only [theirsW,List.find?_map]; rfl
   obtain ⟨ev,hev,hbd⟩ := tb_Valid_tot (theirsW t) (by simp [theirsW]; omega)
   obtain rfl : ev = 0 := by rw [hv] at hev; injection hev with q; exact q.symm
   obtain ⟨⟨w0,w1,w2,w3,w4,w5⟩,_⟩ := hbd.2 rfl
   have hX : ∃ w : ApiPos,(if (c / 1000 - 54 == 0) = true then some t.Work.e0 else if (c / 1000 - 54 == 1) = true then some t.Work.e1 else if (c / 1000 - 54 == 2) = true then some t.Work.e2 else if (c / 1000 - 54 == 3) = true then some t.Work.e3 else if (c / 1000 - 54 == 4) = true then some t.Work.e4 else some t.Work.e5) = some w ∧ inR w := by
    have : c / 1000 - 54 = 0 ∨ c / 1000 - 54 = 1 ∨ c / 1000 - 54 = 2 ∨ c / 1000 - 54 = 3 ∨ c / 1000 - 54 = 4 ∨ c / 1000 - 54 = 5 := by omega
    rcases this with e | e | e | e | e | e <;> rw [e]
    ·exact ⟨_,rfl,w0⟩
    ·exact ⟨_,rfl,w1⟩
    ·exact ⟨_,rfl,w2⟩
    ·exact ⟨_,rfl,w3⟩
    ·exact ⟨_,rfl,w4⟩
    ·exact ⟨_,rfl,w5⟩
   obtain ⟨w,hXe,hw⟩ := hX
   rw [show (theirsW t).Work = t.Work from rfl,hXe,bindO_s,bindO_s]
   unfold lenW
   unfold inR at hw
   by_cases h0 : n = 0
   ·simp only [h0,if_true,bne_self_eq_false,Bool.false_eq_true,if_false,beq_self_eq_true]
    rw [wrap_i64 (by omega) (by omega),Int.add_zero]
   ·have hn : (n == 0) = false := by simpa using h0
    simp only [h0,hn,Bool.false_eq_true,if_false,hfind]
    rw [okIdx_of (by omega),guardO_t,range_find (p := fun x : R45Length=>x.Number == n) (e := fun x=>(ApiPos.mk w.X w.Y (IntKind.i64.wrap (w.Z + x.Length)),(0 : Int))) t.Lengths 0 (fun i x=>rfl)]
    cases t.Lengths.find? (fun x=>x.Number == n) with
    | none=>rfl
    | some x=>rfl
 ·simp
theorem work_same (t : R45Table) (c n : Int) (p : ApiPos) (hl : t.Lengths.length ≤ 1000) : tb_Work (theirsW t) c n p = r45_Work t c n p := by
 unfold tb_Work r45_Work r45_move
 rw [show TableTable.mk (theirsW t).Work (theirsW t).Lengths = theirsW t from rfl,shift_same t c n hl]
 obtain ⟨r,hr⟩ : ∃ r,r45_shift t c n = some r := by
  rw [← shift_same t c n hl]
  obtain ⟨r,hr,_⟩ := tb_offset_tot (theirsW t) c n (by simp [theirsW]; omega)
  exact ⟨r,hr⟩
 rw [hr,bindO_s,bindO_s]
 unfold tb_moved
 cases (r.2 != 0) with
 | true=>rfl
 | false =>
  simp only [Bool.false_eq_true,if_false,tb_far_eq,r45_out_eq,bindO_s]
theorem machine_same (t : R45Table) (c n : Int) (p : ApiPos) (hl : t.Lengths.length ≤ 1000) : tb_Machine (theirsW t) c n p = r45_Machine t c n p := by
 unfold tb_Machine r45_Machine r45_move
 rw [shift_same t c n hl]
 obtain ⟨r,hr⟩ : ∃ r,r45_shift t c n = some r := by
  rw [← shift_same t c n hl]
  obtain ⟨r,hr,_⟩ := tb_offset_tot (theirsW t) c n (by simp [theirsW]; omega)
  exact ⟨r,hr⟩
 rw [hr,bindO_s,bindO_s]
 unfold tb_moved
 cases (r.2 != 0) with
 | true=>rfl
 | false =>
  simp only [Bool.false_eq_true,if_false,tb_far_eq,r45_out_eq,bindO_s]
end Go.Proofs.YtopjpenbieojmaaGreatDoor
namespace Go.Proofs.YtopjpenbieojmaaGreatDoor
open Go.RowKit
set_option linter.unusedVariables false
set_option linter.unusedSimpArgs false
def regMd (s : ModalState) : Prop := s.Motion ∈ codes1 ∧ s.Distance ∈ codes2
theorem grp_1 {c : Int} (h : grp c = 1) : c ∈ codes1 := by
 unfold grp at h
 by_cases q : c ∈ codes1
 ·exact q
 ·rw [if_neg q] at h
  exfalso
  revert h
  repeat' split
  all_goals omega
theorem grp_2 {c : Int} (h : grp c = 2) : c ∈ codes2 := by
 unfold grp at h
 by_cases q : c ∈ codes1
 ·rw [if_pos q] at h; omega
 ·rw [if_neg q] at h
  by_cases q2 : c ∈ codes2
  ·exact q2
  ·rw [if_neg q2] at h
   exfalso
   revert h
   repeat' split
   all_goals omega
theorem put_reg {s : ModalState} (w : ApiWord) (h : regMd s) : regMd (putW s w) := by
 unfold putW
 by_cases h1 : w.Letter = 71
 ·rw [if_pos h1]
  by_cases g1 : grp w.Value = 1
  ·rw [if_pos g1]; exact ⟨grp_1 g1,h.2⟩
  ·rw [if_neg g1]
   by_cases g2 : grp w.Value = 2
   ·rw [if_pos g2]; exact ⟨h.1,grp_2 g2⟩
   ·rw [if_neg g2]
    by_cases g3 : grp w.Value = 3
    ·rw [if_pos g3]; exact h
    ·rw [if_neg g3]
     by_cases g4 : grp w.Value = 4
     ·rw [if_pos g4]; exact h
     ·rw [if_neg g4]; exact h
 ·rw [if_neg h1]
  by_cases h2 : w.Letter = 70
  ·rw [if_pos h2]; exact h
  ·rw [if_neg h2]
   by_cases h3 : w.Letter = 84
   ·rw [if_pos h3]; exact h
   ·rw [if_neg h3]
    by_cases h4 : w.Letter = 72
    ·rw [if_pos h4]; exact h
    ·rw [if_neg h4]; exact h
theorem fold_reg : ∀ (l : List ApiWord) (s : ModalState),regMd s → regMd (l.foldl putW s)
 | [],_,h=>h
 | w :: l,s,h=>fold_reg l _ (put_reg w h)
theorem new_reg : regMd newS := by unfold regMd newS codes1 codes2; simp
def knW (w : ApiWord) : Bool :=
 if w.Letter = 77 then [0,1000,3000,4000,5000,6000,8000,9000,30000].contains w.Value
 else if w.Letter = 83 then decide (w.Value ≥ 0)
 else [71,84,70,72,78,88,89,90,73,74,81,82].contains w.Letter
theorem all_not {α : Type} (p : α → Bool) (l : List α) : (l.any fun x=>!(p x)) = !(l.all p) := by
 induction l with
 | nil=>rfl
 | cons x l ih=>rw [List.any_cons,List.all_cons,ih]; cases p x <;> rfl
theorem known_fin {f : Nat → ApiWord → Unit → Option (Ex (Ex Bool Unit) Unit)} (l : List ApiWord) (hl : l.length ≤ 1000) (hf : ∀ i x,f i x () = if (!(knW x)) = true then some (.ret (.ret false)) else some (.go ())) :
  bindX (guardO (okIdx l) (rangeX f (fun _=>some (.go ())) l 0 ())) (fun (_ : Unit)=>some true) = some (l.all knW) := by
 rw [okIdx_of (by omega),guardO_t,range_any (r := false) l 0 hf,all_not]
 cases l.all knW <;> rfl
theorem inp_known_eq (b : ApiBlock) (hl : b.Words.length ≤ 1000) : inp_known b = some (b.Words.all knW) := by
 unfold inp_known
 refine known_fin b.Words hl (fun i w=>?_)
 rw [contains_eq _ _ (by decide),bindO_s]
 unfold knW
 by_cases h1 : w.Letter = 77
 ·rw [h1,if_pos rfl]
  cases h : ([0,1000,3000,4000,5000,6000,8000,9000,30000] : List Int).contains w.Value <;> rfl
 ·rw [if_neg h1]
  by_cases h2 : w.Letter = 83
  ·rw [h2,if_pos rfl]
   by_cases h : w.Value < 0
   ·rw [decide_eq_true h,decide_eq_false (show ¬ w.Value ≥ 0 by omega)]; rfl
   ·rw [decide_eq_false h,decide_eq_true (show w.Value ≥ 0 by omega)]; rfl
  ·rw [if_neg h2,beq_false_of_ne h1,beq_false_of_ne h2]
   by_cases a1 : w.Letter = 71
   ·rw [a1]; rfl
   by_cases a2 : w.Letter = 84
   ·rw [a2]; rfl
   by_cases a3 : w.Letter = 70
   ·rw [a3]; rfl
   by_cases a4 : w.Letter = 72
   ·rw [a4]; rfl
   by_cases a5 : w.Letter = 78
   ·rw [a5]; rfl
   by_cases a6 : w.Letter = 88
   ·rw [a6]; rfl
   by_cases a7 : w.Letter = 89
   ·rw [a7]; rfl
   by_cases a8 : w.Letter = 90
   ·rw [a8]; rfl
   by_cases a9 : w.Letter = 73
   ·rw [a9]; rfl
   by_cases b1 : w.Letter = 74
   ·rw [b1]; rfl
   by_cases b2 : w.Letter = 81
   ·rw [b2]; rfl
   by_cases b3 : w.Letter = 82
   ·rw [b3]; rfl
   simp [a1,a2,a3,a4,a5,a6,a7,a8,a9,b1,b2,b3]
theorem r47_one_eq (c : Int) (l : List UInt8) (hl : l.length ≤ 1000) : r47_one c l = some (l.any fun k=>c == (k.toNat : Int)) := by
  unfold r47_one
  rw [okIdx_of (by omega),guardO_t,range_any (p := fun k : UInt8=>c == (k.toNat : Int)) (r := true) l 0 (fun i x=>by
    rw [show ((x.toNat : Int) == c) = (c == (x.toNat : Int)) from Bool.beq_comm])]
  cases l.any fun k=>c == (k.toNat : Int) <;> rfl
theorem r47_some_eq (b : ApiBlock) (l : List UInt8) (hb : b.Words.length ≤ 1000) (hl : l.length ≤ 1000) : r47_some b l = some (hasW b l) := by
 unfold r47_some
 rw [hasW_iff,okIdx_of (by omega),guardO_t,range_any (p := fun w : ApiWord=>l.any fun k=>w.Letter == (k.toNat : Int)) (r := true) b.Words 0 (fun i x=>by rw [r47_one_eq _ _ hl,bindO_s])]
 cases b.Words.any fun w=>l.any fun k=>w.Letter == (k.toNat : Int) <;> rfl
theorem r47_known_eq (b : ApiBlock) (hu : ∀ w ∈ b.Words,u8W w) (hl : b.Words.length ≤ 1000) {e : Int} (he : r41_Valid b = some e) : r47_known b = some (decide (e = 0) && (goodW [] b.Words && b.Words.all knW)) := by
 unfold r47_known
 rw [he,bindO_s]
 by_cases h0 : e = 0
 ·rw [if_neg (by simp [h0]),show ApiBlock.mk b.Skip b.Words b.Comment = b from rfl,r42_Check_eq b hu (by omega),bindO_s,decide_eq_true h0,Bool.true_and]
  cases hg : goodW [] b.Words with
  | false=>rfl
  | true =>
   rw [if_pos rfl,Bool.true_and]
   show bindO (some ((0 : Int) != 0)) _ = _
   rw [bindO_s,if_neg (by decide)]
   refine known_fin b.Words hl (fun i w=>?_)
   rw [r47_one_eq _ _ (by decide),bindO_s]
   unfold knW
   by_cases h1 : w.Letter = 77
   ·rw [h1,if_pos rfl]
    by_cases c1 : w.Value = 0
    ·rw [c1]; rfl
    by_cases c2 : w.Value = 1000
    ·rw [c2]; rfl
    by_cases c3 : w.Value = 3000
    ·rw [c3]; rfl
    by_cases c4 : w.Value = 4000
    ·rw [c4]; rfl
    by_cases c5 : w.Value = 5000
    ·rw [c5]; rfl
    by_cases c6 : w.Value = 6000
    ·rw [c6]; rfl
    by_cases c7 : w.Value = 8000
    ·rw [c7]; rfl
    by_cases c8 : w.Value = 9000
    ·rw [c8]; rfl
    by_cases c9 : w.Value = 30000
    ·rw [c9]; rfl
    simp [c1,c2,c3,c4,c5,c6,c7,c8,c9]
   ·rw [if_neg h1]
    by_cases h2 : w.Letter = 83
    ·rw [h2,if_pos rfl]
     by_cases h : w.Value < 0
     ·rw [decide_eq_true h,decide_eq_false (show ¬ w.Value ≥ 0 by omega)]; rfl
     ·rw [decide_eq_false h,decide_eq_true (show w.Value ≥ 0 by omega)]; rfl
    ·rw [if_neg h2,beq_false_of_ne h2]
     by_cases a1 : w.Letter = 71
     ·rw [a1]; rfl
     by_cases a2 : w.Letter = 84
     ·rw [a2]; rfl
     by_cases a3 : w.Letter = 70
     ·rw [a3]; rfl
     by_cases a4 : w.Letter = 72
     ·rw [a4]; rfl
     by_cases a5 : w.Letter = 78
     ·rw [a5]; rfl
     by_cases a6 : w.Letter = 88
     ·rw [a6]; rfl
     by_cases a7 : w.Letter = 89
     ·rw [a7]; rfl
     by_cases a8 : w.Letter = 90
     ·rw [a8]; rfl
     by_cases a9 : w.Letter = 73
     ·rw [a9]; rfl
     by_cases b1 : w.Letter = 74
     ·rw [b1]; rfl
     by_cases b2 : w.Letter = 81
     ·rw [b2]; rfl
     by_cases b3 : w.Letter = 82
     ·rw [b3]; rfl
     simp [h1,h2,a1,a2,a3,a4,a5,a6,a7,a8,a9,b1,b2,b3]
 ·rw [if_pos (by simpa using h0),bindO_s,if_pos rfl,decide_eq_false h0]; rfl
def crd (b : ApiBlock) (l a d : Int) : Int := if (findW b l).2 = true then (if d = 90000 then (findW b l).1 else a + (findW b l).1) else a
def tgtW (s : ModalState) (b : ApiBlock) (p : ApiPos) : ApiPos := ⟨crd b 88 p.X s.Distance,crd b 89 p.Y s.Distance,crd b 90 p.Z s.Distance⟩
theorem crd_bd {b : ApiBlock} (hv : validP b) {a : Int} (h : -10000000 ≤ a ∧ a ≤ 10000000) (l d : Int) : -1000010000000 ≤ crd b l a d ∧ crd b l a d ≤ 1000010000000 := by
 have := findW_bd hv l
 unfold crd
 split
 ·split <;> omega
 ·omega
theorem inp_crd {b : ApiBlock} (hv : validP b) (hl : b.Words.length ≤ 1000) {a : Int} (h : -10000000 ≤ a ∧ a ≤ 10000000) (l d : Int) : (bindO (bk_Find b l) fun (y : Int × Bool)=>if (!y.2) = true then some a else if (d == 90000) = true then some y.1 else some (IntKind.i64.wrap (a + y.1))) = some (crd b l a d) := by
 have := findW_bd hv l
 rw [bk_Find_eq b l hl,bindO_s]
 unfold crd
 cases (findW b l).2 with
 | false=>rfl
 | true =>
  by_cases hd : d = 90000
  ·rw [hd]; rfl
  ·rw [beq_false_of_ne hd,if_pos rfl,if_neg hd,wrap_i64 (by omega) (by omega)]; rfl
theorem inp_target_eq {s : ModalState} {b : ApiBlock} {p : ApiPos} (hv : validP b) (hl : b.Words.length ≤ 1000) (hp : inR p) : inp_target s b p = some (tgtW s b p) := by
 unfold inp_target
 rw [inp_crd hv hl hp.1,bindO_s,inp_crd hv hl hp.2.1,bindO_s,inp_crd hv hl hp.2.2,bindO_s]
 rfl
theorem r47_crd {b : ApiBlock} (hv : validP b) (hl : b.Words.length ≤ 1000) {a : Int} (h : -10000000 ≤ a ∧ a ≤ 10000000) {d : Int} (hd : d ∈ codes2) (l : Int) : r47_coordinate b l a d = some (crd b l a d) := by
 have := findW_bd hv l
 unfold r47_coordinate crd
 rw [r41_Find_eq b l hl,bindO_s]
 cases (findW b l).2 with
 | false=>rfl
 | true =>
  unfold codes2 at hd
  simp only [List.mem_cons,List.not_mem_nil,or_false] at hd
  rcases hd with hd | hd
  ·rw [hd]; rfl
  ·rw [hd,wrap_i64 (by omega) (by omega)]; rfl
theorem r47_value_eq (b : ApiBlock) (c : Int) (hl : b.Words.length ≤ 1000) : r47_value b c = some (findW b c).1 := by
 unfold r47_value
 rw [r41_Find_eq b c hl,bindO_s]
def cycB (k : Int) : Bool := (k == 81000) || ((k == 82000) || (k == 83000))
def mvV (s : ModalState) (b : ApiBlock) (p : ApiPos) : ApiMove := ⟨if s.Motion = 3000 then 4 else 3,tgtW s b p,⟨p.X + (findW b 73).1,p.Y + (findW b 74).1⟩,s.Feed⟩
def iniW (c : CycleCycle) (p : ApiPos) : Int := if ((c.Code == 0) && ((c.R == 0) && ((c.Z == 0) && ((c.Q == 0) && ((c.Rate == 0) && ((c.Initial == 0) && (c.High == false))))))) = true then p.Z else c.Initial
def rdC (s : ModalState) (c : CycleCycle) (b : ApiBlock) (p : ApiPos) : CycleCycle :=
 CycleCycle.mk s.Motion (if (findW b 82).2 = true then (findW b 82).1 else c.R) (if (findW b 90).2 = true then (findW b 90).1 else c.Z) (if (findW b 81).2 = true then (findW b 81).1 else c.Q) (if (findW b 70).2 = true then (findW b 70).1 else s.Feed) (iniW c p) (s.Return == 98000)
def reM (m : ApiMove) : InterpreterReached := ⟨m.To,m.Rate⟩
def posV (s : ModalState) (c : CycleCycle) (b : ApiBlock) (p : ApiPos) : List InterpreterReached × CycleCycle × Int :=
  if s.Motion = 0 then ([⟨tgtW s b p,0⟩],zC,0)
  else if s.Motion = 1000 then ([⟨tgtW s b p,s.Feed⟩],zC,0)
  else if cycB s.Motion = true then
    (if cycV (rdC s c b p) ≠ 0 then ([],zC,cycV (rdC s c b p))
     else if (expV (rdC s c b p) p ⟨(tgtW s b p).X,(tgtW s b p).Y⟩).2 ≠ 0 then ([],zC,(expV (rdC s c b p) p ⟨(tgtW s b p).X,(tgtW s b p).Y⟩).2)
     else ((expV (rdC s c b p) p ⟨(tgtW s b p).X,(tgtW s b p).Y⟩).1.map reM,rdC s c b p,0))
  else if movV p (mvV s b p) = 0 then ((arcL p (mvV s b p)).map fun q=>⟨q,s.Feed⟩,zC,0)
  else ([],zC,movV p (mvV s b p))
theorem mvV_ok {s : ModalState} {b : ApiBlock} {p : ApiPos} (hv : validP b) (hp : inR p) (hf : i64P s.Feed) : okPos p ∧ okMove (mvV s b p) := by
 obtain ⟨p1,p2,p3⟩ := hp
 have a1 := crd_bd hv p1 88 s.Distance
 have a2 := crd_bd hv p2 89 s.Distance
 have a3 := crd_bd hv p3 90 s.Distance
 have b1 := findW_bd hv 73
 have b2 := findW_bd hv 74
 refine ⟨⟨i64_of p1,i64_of p2,i64_of p3⟩,?_,⟨?_,?_,?_⟩,?_,?_,hf⟩
 ·unfold mvV i64P; dsimp only; split <;> omega
 ·unfold mvV tgtW i64P; dsimp only; omega
 ·unfold mvV tgtW i64P; dsimp only; omega
 ·unfold mvV tgtW i64P; dsimp only; omega
 ·unfold mvV i64P; dsimp only; omega
 ·unfold mvV i64P; dsimp only; omega
theorem mvV_kind (s : ModalState) (b : ApiBlock) (p : ApiPos) : (mvV s b p).Kind = 3 ∨ (mvV s b p).Kind = 4 := by
 unfold mvV; dsimp only; split
 ·exact .inr rfl
 ·exact .inl rfl
theorem arc_ok {p : ApiPos} {m : ApiMove} (hk : m.Kind = 3 ∨ m.Kind = 4) (h : movV p m = 0) : ArcOk p m := by
 unfold movV at h
 rw [if_neg (by omega)] at h
 by_cases e2 : (m.Kind = 3 ∨ m.Kind = 4) ∧ m.Rate > 0 ∧ rad p m.Center > 0 ∧ rad p m.Center = rad m.To m.Center
 ·rw [if_pos e2] at h
  by_cases f : (far6 p m.To || farP m.Center.X || farP m.Center.Y || farP (m.Center.X + rad p m.Center) || farP (m.Center.X - rad p m.Center) || farP (m.Center.Y + rad p m.Center) || farP (m.Center.Y - rad p m.Center)) = true
  ·rw [if_pos f] at h; cases h
  ·have f' : (far6 p m.To || farP m.Center.X || farP m.Center.Y || farP (m.Center.X + rad p m.Center) || farP (m.Center.X - rad p m.Center) || farP (m.Center.Y + rad p m.Center) || farP (m.Center.Y - rad p m.Center)) = false := by simpa using f
   simp only [Bool.or_eq_false_iff,far6] at f'
   obtain ⟨⟨⟨⟨⟨⟨⟨⟨⟨⟨⟨g1,g2⟩,g3⟩,g4⟩,g5⟩,g6⟩,fx⟩,fy⟩,h1⟩,h2⟩,h3⟩,h4⟩ := f'
   have k1 := far_bd h1; have k2 := far_bd h2; have k3 := far_bd h3; have k4 := far_bd h4
   exact ⟨hk,far_bd g1,far_bd g2,far_bd g3,far_bd g4,far_bd g5,far_bd g6,far_bd fx,far_bd fy,by omega,e2.2.2.2,by omega,by omega⟩
 ·rw [if_neg e2] at h; cases h
theorem ip_Arc_bad {p : ApiPos} {m : ApiMove} (hk : m.Kind = 3 ∨ m.Kind = 4) (hp : okPos p) (hm : okMove m) (h : movV p m ≠ 0) : ip_Arc p m = some ([],movV p m) := by
 have hQ : ip_Quarters p m = some (0,movV p m) := by
  unfold ip_Quarters ip_isArc
  have hk' : ((m.Kind == 3) || (m.Kind == 4)) = true := by simpa using hk
  rw [hk',bindO_s,if_neg (by simp)]
  show bindO (ip_Valid p m) _ = _
  rw [ip_Valid_eq hp hm,bindO_s,if_pos (by simpa using h)]
 unfold ip_Arc
 show bindO (ip_Quarters p m) _ = _
 rw [hQ,bindO_s,if_pos (by simpa using h)]
theorem map_loop {α β : Type} (g : α → β) (l : List α) (hl : l.length ≤ 1000000) : (guardO (okIdx l) (rangeX (fun (i : Nat) (e : α) (v : List β)=>guardO (okLen (v.length + 1)) (some (.go (v ++ [g e])))) (fun v=>some v) l 0 [])) = some (l.map g) := by
 rw [okIdx_of (by omega),guardO_t,range_fold (g := fun (o : List β) (x : α)=>o ++ [g x]) (R := fun i v=>v.length ≤ i) (L := l) ?_ l 0 [] rfl (by simp)]
 ·rw [map_fold]; rfl
 ·intro i x v hx hr
  have hlt := getElem_lt hx
  rw [okLen_of (by omega),guardO_t]
  exact ⟨rfl,by simp; omega⟩
theorem expV_len (c : CycleCycle) (p : ApiPos) (g : ApiGrid2) : (expV c p g).1.length ≤ 2010 := by
 unfold expV
 split
 ·split
  ·simp
  ·rename_i h _
   exact cycM_len (cycV_ok h) p g
 ·simp
theorem arcL_len {p : ApiPos} {m : ApiMove} (h : ArcOk p m) : (arcL p m).length ≤ 4000 := by
 have := h.all
 unfold arcL; simp; omega
theorem posV_len (s : ModalState) (c : CycleCycle) (b : ApiBlock) (p : ApiPos) : (posV s c b p).1.length ≤ 4000 := by
 unfold posV
 split
 ·simp
 ·split
  ·simp
  ·split
   ·split
    ·simp
    ·split
     ·simp
     ·have := expV_len (rdC s c b p) p ⟨(tgtW s b p).X,(tgtW s b p).Y⟩
      simp; omega
   ·split
    ·rename_i h
     have := arcL_len (arc_ok (mvV_kind s b p) h)
     simp; omega
    ·simp
theorem inp_positions_eq {s : ModalState} {c : CycleCycle} {b : ApiBlock} {p : ApiPos} (hv : validP b) (hl : b.Words.length ≤ 1000) (hp : inR p) (hf : i64P s.Feed) : inp_positions s c b p = some (posV s c b p) := by
 unfold inp_positions posV
 rw [show ApiBlock.mk b.Skip b.Words b.Comment = b from rfl,inp_target_eq hv hl hp,bindO_s]
 by_cases m0 : s.Motion = 0
 ·rw [if_pos (by simpa using m0),if_pos m0]; rfl
 rw [if_neg (by simpa using m0),if_neg m0]
 by_cases m1 : s.Motion = 1000
 ·rw [if_pos (by simpa using m1),if_pos m1]; rfl
 rw [if_neg (by simpa using m1),if_neg m1]
 unfold inp_cycles
 rw [bindO_s]
 by_cases mc : cycB s.Motion = true
 ·rw [if_pos (show ((s.Motion == 81000) || ((s.Motion == 82000) || (s.Motion == 83000))) = true from mc),if_pos mc]
  have hcan : inp_canned s c b p (tgtW s b p) = some (if cycV (rdC s c b p) ≠ 0 then ([],zC,cycV (rdC s c b p))
    else if (expV (rdC s c b p) p ⟨(tgtW s b p).X,(tgtW s b p).Y⟩).2 ≠ 0 then ([],zC,(expV (rdC s c b p) p ⟨(tgtW s b p).X,(tgtW s b p).Y⟩).2)
    else ((expV (rdC s c b p) p ⟨(tgtW s b p).X,(tgtW s b p).Y⟩).1.map reM,rdC s c b p,0)) := by
   unfold inp_canned
   have hi : (if (!((c.Code == 0) && ((c.R == 0) && ((c.Z == 0) && ((c.Q == 0) && ((c.Rate == 0) && ((c.Initial == 0) && (c.High == false)))))))) = true then some c.Initial else some p.Z) = some (iniW c p) := by
    unfold iniW
    cases ((c.Code == 0) && ((c.R == 0) && ((c.Z == 0) && ((c.Q == 0) && ((c.Rate == 0) && ((c.Initial == 0) && (c.High == false))))))) <;> rfl
   obtain ⟨n,hn,hn2⟩ := cy_Read_same b s.Motion s.Feed (iniW c p) (s.Return == 98000) c hl
   have hn3 : n = rdC s c b p := hn2
   subst hn3
   rw [hi,bindO_s,hn,bindO_s]
   by_cases z : cycV (rdC s c b p) = 0
   ·rw [if_pos z,if_neg (by simp),cy_Expand_one,bindO_s,if_neg (show ¬ (cycV (rdC s c b p) ≠ 0) by simpa using z)]
    by_cases y : (expV (rdC s c b p) p ⟨(tgtW s b p).X,(tgtW s b p).Y⟩).2 = 0
    ·rw [if_neg (by simpa using y),if_neg (by simpa using y),map_loop (fun e : ApiMove=>InterpreterReached.mk e.To e.Rate) _ (Nat.le_trans (expV_len (rdC s c b p) p ⟨(tgtW s b p).X,(tgtW s b p).Y⟩) (by decide)),bindO_s]
     rfl
    ·rw [if_pos (by simpa using y),if_pos (by simpa using y)]; rfl
   ·rw [if_neg z,if_pos (by simpa using z),if_pos z]; rfl
  show bindO (inp_canned s c b p (tgtW s b p)) _ = _
  rw [hcan,bindO_s]
 ·rw [if_neg (show ¬ ((s.Motion == 81000) || ((s.Motion == 82000) || (s.Motion == 83000))) = true from mc),if_neg mc]
  obtain ⟨op,om⟩ := mvV_ok (s := s) hv hp hf
  have hb1 := findW_bd hv 73
  have hb2 := findW_bd hv 74
  obtain ⟨p1,p2,p3⟩ := hp
  have harc : inp_arc s b p (tgtW s b p) = some (if movV p (mvV s b p) = 0 then ((arcL p (mvV s b p)).map fun q=>⟨q,s.Feed⟩,0) else ([],movV p (mvV s b p))) := by
   unfold inp_arc
   rw [inp_value_eq b 73 hl,bindO_s,inp_value_eq b 74 hl,bindO_s]
   have hk : (if (s.Motion == 3000) = true then some (4 : Int) else some 3) = some (if s.Motion = 3000 then 4 else 3) := by
    by_cases q : s.Motion = 3000
    ·rw [if_pos (by simpa using q),if_pos q]
    ·rw [if_neg (by simpa using q),if_neg q]
   rw [hk,bindO_s,wrap_i64 (n := p.X + (findW b 73).1) (by omega) (by omega),wrap_i64 (n := p.Y + (findW b 74).1) (by omega) (by omega)]
   show bindO (ip_Arc p (mvV s b p)) _ = _
   by_cases z : movV p (mvV s b p) = 0
   ·have ok := arc_ok (mvV_kind s b p) z
    rw [ip_Arc_eq ok op om z,bindO_s,if_pos z,map_loop (fun e : ApiPos=>InterpreterReached.mk e s.Feed) _ (Nat.le_trans (arcL_len ok) (by decide)),bindO_s]
   ·rw [ip_Arc_bad (mvV_kind s b p) op om z,bindO_s,if_neg z]
    rfl
  show bindO (inp_arc s b p (tgtW s b p)) _ = _
  rw [harc,bindO_s]
  by_cases z : movV p (mvV s b p) = 0
  ·rw [if_pos z,if_pos z]; rfl
  ·rw [if_neg z,if_neg z]; rfl
end Go.Proofs.YtopjpenbieojmaaGreatDoor
namespace Go.Proofs.YtopjpenbieojmaaGreatDoor
open Go.RowKit
set_option linter.unusedVariables false
set_option linter.unusedSimpArgs false
def ways : ApiPos → List ApiMove → List InterpreterReached → Prop
 | _,[],fl=>fl = []
 | p,x :: l,fl=>∃ w fl',r47_positions p x = some (w,0) ∧ w.length ≤ 4000 ∧ ways x.To l fl' ∧ fl = w.map (fun q=>InterpreterReached.mk q x.Rate) ++ fl'
theorem ways_straight : ∀ (l : List ApiMove) (p : ApiPos),(∀ m ∈ l,m.Kind ≠ 3 ∧ m.Kind ≠ 4) → ways p l (l.map reM)
 | [],_,_=>rfl
 | x :: l,p,h=>by
  obtain ⟨h3,h4⟩ := h x (by simp)
  refine ⟨[x.To],l.map reM,?_,by simp,ways_straight l x.To (fun m hm=>h m (by simp [hm])),rfl⟩
  unfold r47_positions
  rw [if_pos (by simp [h3,h4])]
theorem ways_arc {p : ApiPos} {m : ApiMove} (ok : ArcOk p m) (hp : okPos p) (hm : okMove m) (hv : movV p m = 0) : ways p [m] ((arcL p m).map fun q=>InterpreterReached.mk q m.Rate) := by
 refine ⟨arcL p m,[],?_,arcL_len ok,rfl,by simp⟩
 unfold r47_positions
 rw [if_neg (by rcases ok.kind with k | k <;> simp [k]),r33_Arc_eq ok hp hm hv,bindO_s]
theorem goM_kind {s : ApiPos × List ApiMove} (q : ApiPos) (r : Int) (h : ∀ m ∈ s.2,m.Kind ≠ 3 ∧ m.Kind ≠ 4) : ∀ m ∈ (goM s q r).2,m.Kind ≠ 3 ∧ m.Kind ≠ 4 := by
 unfold goM
 split
 ·exact h
 ·intro m hm
  rcases List.mem_append.1 hm with z | z
  ·exact h m z
  ·simp only [List.mem_cons,List.not_mem_nil,or_false] at z
   subst z
   dsimp only
   split <;> omega
theorem fold_kind (c : CycleCycle) (g : ApiGrid2) : ∀ (l : List Int) (s : ApiPos × List ApiMove),(∀ m ∈ s.2,m.Kind ≠ 3 ∧ m.Kind ≠ 4) → ∀ m ∈ (l.foldl (fun s z=>goM (goM s (ApiPos.mk g.X g.Y z) c.Rate) (ApiPos.mk g.X g.Y c.R) 0) s).2,m.Kind ≠ 3 ∧ m.Kind ≠ 4
 | [],s,h=>h
 | z :: l,s,h=>fold_kind c g l _ (goM_kind _ _ (goM_kind _ _ h))
theorem cycM_kind (c : CycleCycle) (p : ApiPos) (g : ApiGrid2) : ∀ m ∈ (cycM c p g).2,m.Kind ≠ 3 ∧ m.Kind ≠ 4 := by
 unfold cycM
 dsimp only
 have h3 := fold_kind c g (depL c) (goM (goM (goM (p,[]) (ApiPos.mk p.X p.Y (if p.Z < c.R then c.R else p.Z)) 0) (ApiPos.mk g.X g.Y (goM (p,[]) (ApiPos.mk p.X p.Y (if p.Z < c.R then c.R else p.Z)) 0).1.Z) 0) (ApiPos.mk g.X g.Y c.R) 0) (goM_kind _ _ (goM_kind _ _ (goM_kind _ _ (by simp))))
 split
 ·exact goM_kind _ _ h3
 ·exact h3
theorem expV_kind (c : CycleCycle) (p : ApiPos) (g : ApiGrid2) : ∀ m ∈ (expV c p g).1,m.Kind ≠ 3 ∧ m.Kind ≠ 4 := by
 unfold expV
 split
 ·split
  ·simp
  ·exact cycM_kind c p g
 ·simp
theorem r47_moves_eq {s : ModalState} {c : CycleCycle} {b : ApiBlock} {p : ApiPos} (st : R42State) (at_ : ApiPos) (hv : validP b) (hl : b.Words.length ≤ 1000) (hp : inR p) (hf : i64P s.Feed) (hr : regMd s) (hn : s.Motion ≠ 80000) :
  ∃ l c',r47_moves (R47Machine.mk st (r44c c) at_) (backS s) b p = some (l,c',(posV s c b p).2.2) ∧ ((posV s c b p).2.2 = 0 → c' = r44c (posV s c b p).2.1 ∧ ways p l (posV s c b p).1 ∧ l.length ≤ 3000) := by
 unfold r47_moves
 have eD : (backS s).Distance = s.Distance := rfl
 have eM : (backS s).Motion = s.Motion := rfl
 have eF : (backS s).Feed = s.Feed := rfl
 have eR : (backS s).Return = s.Return := rfl
 rw [eD,eM,eF,eR,r47_crd hv hl hp.1 hr.2,bindO_s,r47_crd hv hl hp.2.1 hr.2,bindO_s,r47_crd hv hl hp.2.2 hr.2,bindO_s]
 unfold r47_Drills
 rw [bindO_s]
 have hcodes := hr.1
 unfold codes1 at hcodes
 simp only [List.mem_cons,List.not_mem_nil,or_false] at hcodes
 unfold posV
 by_cases mc : cycB s.Motion = true
 ·have m0 : ¬ s.Motion = 0 := by intro q; rw [q] at mc; cases mc
  have m1 : ¬ s.Motion = 1000 := by intro q; rw [q] at mc; cases mc
  rw [if_pos (show ((s.Motion == 81000) || ((s.Motion == 82000) || (s.Motion == 83000))) = true from mc),if_neg m0,if_neg m1,if_pos mc]
  have hi : (if (((r44c c).Code == 0) && (((r44c c).R == 0) && (((r44c c).Z == 0) && (((r44c c).Q == 0) && (((r44c c).Rate == 0) && (((r44c c).Initial == 0) && ((r44c c).High == false))))))) = true then some p.Z else some (r44c c).Initial) = some (iniW c p) := by
   show (if ((c.Code == 0) && ((c.R == 0) && ((c.Z == 0) && ((c.Q == 0) && ((c.Rate == 0) && ((c.Initial == 0) && (c.High == false))))))) = true then some p.Z else some c.Initial) = _
   unfold iniW
   cases ((c.Code == 0) && ((c.R == 0) && ((c.Z == 0) && ((c.Q == 0) && ((c.Rate == 0) && ((c.Initial == 0) && (c.High == false))))))) <;> rfl
  have hR := r44_Read_same b s.Motion s.Feed (iniW c p) (s.Return == 98000) c hl (c := rdC s c b p) rfl
  dsimp only
  rw [hi,bindO_s,hR,bindO_s]
  by_cases z : cycV (rdC s c b p) = 0
  ·rw [if_pos z,if_neg (by simp),if_neg (show ¬ (cycV (rdC s c b p) ≠ 0) by simpa using z),r44_Expand_one,bindO_s]
   have hk := expV_kind (rdC s c b p) p ⟨(tgtW s b p).X,(tgtW s b p).Y⟩
   have hln := expV_len (rdC s c b p) p ⟨(tgtW s b p).X,(tgtW s b p).Y⟩
   show ∃ l c',some ((expV (rdC s c b p) p ⟨(tgtW s b p).X,(tgtW s b p).Y⟩).1,r44c (rdC s c b p),(expV (rdC s c b p) p ⟨(tgtW s b p).X,(tgtW s b p).Y⟩).2) = _ ∧ _
   by_cases y : (expV (rdC s c b p) p ⟨(tgtW s b p).X,(tgtW s b p).Y⟩).2 = 0
   ·rw [if_neg (by simpa using y)]
    exact ⟨_,_,by rw [y],fun _=>⟨rfl,ways_straight _ _ hk,by omega⟩⟩
   ·rw [if_pos y]
    exact ⟨_,_,rfl,fun q=>absurd q y⟩
  ·rw [if_neg z,if_pos (by simpa using z),if_pos z]
   exact ⟨_,_,rfl,fun q=>absurd q z⟩
 ·rw [if_neg (show ¬ ((s.Motion == 81000) || ((s.Motion == 82000) || (s.Motion == 83000))) = true from mc)]
  by_cases m0 : s.Motion = 0
  ·rw [if_pos m0]
   simp only [m0,bne_self_eq_false,Bool.false_eq_true,if_false,bindO_s,beq_iff_eq,Bool.or_eq_true,show ¬ ((0 : Int) = 2000) by decide,show ¬ ((0 : Int) = 3000) by decide,or_self,bindX_g]
   exact ⟨_,_,rfl,fun _=>⟨rfl,ways_straight [_] p (by simp),by simp⟩⟩
  rw [if_neg m0]
  by_cases m1 : s.Motion = 1000
  ·rw [if_pos m1]
   simp only [m1,bne_iff_ne,ne_eq,show ¬ ((1000 : Int) = 0) by decide,not_false_eq_true,if_true,bindO_s,beq_iff_eq,Bool.or_eq_true,show ¬ ((1000 : Int) = 2000) by decide,show ¬ ((1000 : Int) = 3000) by decide,or_self,if_false,bindX_g]
   exact ⟨_,_,rfl,fun _=>⟨rfl,ways_straight [_] p (by simp),by simp⟩⟩
  rw [if_neg m1,if_neg mc]
  have m23 : s.Motion = 2000 ∨ s.Motion = 3000 := by
   rcases hcodes with h | h | h | h | h | h | h | h
   ·exact absurd h m0
   ·exact absurd h m1
   ·exact .inl h
   ·exact .inr h
   ·exact absurd h hn
   ·rw [h] at mc; exact absurd rfl mc
   ·rw [h] at mc; exact absurd rfl mc
   ·rw [h] at mc; exact absurd rfl mc
  obtain ⟨op,om⟩ := mvV_ok (s := s) hv hp hf
  have hb1 := findW_bd hv 73
  have hb2 := findW_bd hv 74
  obtain ⟨p1,p2,p3⟩ := hp
  rw [if_pos (show (s.Motion != 0) = true by simpa using m0),bindO_s,if_pos (show ((s.Motion == 2000) || (s.Motion == 3000)) = true by simpa using m23)]
  have hk : (if (s.Motion == 3000) = true then some (4 : Int) else some 3) = some (if s.Motion = 3000 then 4 else 3) := by
   by_cases q : s.Motion = 3000
   ·rw [if_pos (by simpa using q),if_pos q]
   ·rw [if_neg (by simpa using q),if_neg q]
  rw [hk,bindO_s,r47_value_eq b 73 hl,bindO_s,r47_value_eq b 74 hl,bindO_s,wrap_i64 (n := p.X + (findW b 73).1) (by omega) (by omega),wrap_i64 (n := p.Y + (findW b 74).1) (by omega) (by omega)]
  have hV := r33_Valid_eq op om
  rw [show ApiMove.mk (if s.Motion = 3000 then 4 else 3) (ApiMove.mk 2 (ApiPos.mk (crd b 88 p.X s.Distance) (crd b 89 p.Y s.Distance) (crd b 90 p.Z s.Distance)) (ApiGrid2.mk 0 0) s.Feed).To (ApiGrid2.mk (p.X + (findW b 73).1) (p.Y + (findW b 74).1)) (ApiMove.mk 2 (ApiPos.mk (crd b 88 p.X s.Distance) (crd b 89 p.Y s.Distance) (crd b 90 p.Z s.Distance)) (ApiGrid2.mk 0 0) s.Feed).Rate = mvV s b p from rfl,hV,bindO_s]
  by_cases z : movV p (mvV s b p) = 0
  ·rw [z,if_neg (by decide),if_pos rfl,bindX_g]
   exact ⟨_,_,rfl,fun _=>⟨rfl,ways_arc (arc_ok (mvV_kind s b p) z) op om z,by simp⟩⟩
  ·rw [if_pos (by simpa using z),if_neg z,bindX_r]
   exact ⟨_,_,rfl,fun q=>absurd q z⟩
def machV (t : TableTable) (w n : Int) (q : ApiPos) : ApiPos × Int := (tb_Machine t w n q).getD (⟨0,0,0⟩,1)
theorem machV_eq {t : TableTable} (ht : t.Lengths.length ≤ 1000) (w n : Int) (q : ApiPos) : tb_Machine t w n q = some (machV t w n q) := by
 obtain ⟨e,h,_⟩ := tb_Machine_tot t w n q ht
 unfold machV; rw [h]; rfl
def addM (r : ApiPos) (rate tool i : Int) (v : List ApiMotion × ApiPos) : List ApiMotion × ApiPos := (if (!posEq r v.2) = true then v.1 ++ [ApiMotion.mk v.2 r rate tool i] else v.1,r)
def runM (t : TableTable) (w n tool i : Int) : List InterpreterReached → List ApiMotion × ApiPos → Ex Int (List ApiMotion × ApiPos)
 | [],v=>.go v
 | x :: l,v=>if (machV t w n x.at_).2 ≠ 0 then .ret (machV t w n x.at_).2 else runM t w n tool i l (addM (machV t w n x.at_).1 x.rate tool i v)
theorem runM_append (t : TableTable) (w n tool i : Int) (m : List InterpreterReached) : ∀ (l : List InterpreterReached) (v : List ApiMotion × ApiPos),runM t w n tool i (l ++ m) v = match runM t w n tool i l v with | .ret e=>.ret e | .go u=>runM t w n tool i m u
 | [],v=>rfl
 | x :: l,v=>by
  simp only [List.cons_append,runM]
  by_cases h : (machV t w n x.at_).2 = 0
  ·rw [if_neg (by simpa using h),if_neg (by simpa using h)]
   exact runM_append t w n tool i m l _
  ·rw [if_pos h,if_pos h]
theorem addM_len (r : ApiPos) (rate tool i : Int) (v : List ApiMotion × ApiPos) : (addM r rate tool i v).1.length ≤ v.1.length + 1 := by
 unfold addM; dsimp only; split <;> simp
theorem runM_len (t : TableTable) (w n tool i : Int) : ∀ (l : List InterpreterReached) (v u : List ApiMotion × ApiPos),runM t w n tool i l v = .go u → u.1.length ≤ v.1.length + l.length
 | [],v,u,h=>by injection h with h; subst h; simp
 | x :: l,v,u,h=>by
  simp only [runM] at h
  by_cases q : (machV t w n x.at_).2 = 0
  ·rw [if_neg (by simpa using q)] at h
   have h1 := runM_len t w n tool i l _ u h
   have h2 := addM_len (machV t w n x.at_).1 x.rate tool i v
   simp only [List.length_cons]; omega
  ·rw [if_pos q] at h; cases h
theorem runM_ret (t : TableTable) (w n tool i : Int) : ∀ (l : List InterpreterReached) (v : List ApiMotion × ApiPos) (e : Int),runM t w n tool i l v = .ret e → e ≠ 0
 | [],v,e,h=>by cases h
 | x :: l,v,e,h=>by
  simp only [runM] at h
  by_cases q : (machV t w n x.at_).2 = 0
  ·rw [if_neg (by simpa using q)] at h
   exact runM_ret t w n tool i l _ e h
  ·rw [if_pos q] at h
   injection h with h
   rw [← h]; exact q
theorem runM_end (t : TableTable) (w n tool i : Int) (p : ApiPos) : ∀ (l : List InterpreterReached) (v u : List ApiMotion × ApiPos),runM t w n tool i l v = .go u → v.2 = endW p v.1 → u.2 = endW p u.1
 | [],v,u,h,hv=>by injection h with h; subst h; exact hv
 | x :: l,v,u,h,hv=>by
  simp only [runM] at h
  by_cases q : (machV t w n x.at_).2 = 0
  ·rw [if_neg (by simpa using q)] at h
   refine runM_end t w n tool i p l _ u h ?_
   unfold addM
   dsimp only
   cases z : posEq (machV t w n x.at_).1 v.2 with
   | true=>rw [if_neg (by simp),← hv]; exact posEq_iff.1 z
   | false=>rw [if_pos (by simp),endW_snoc]
  ·rw [if_pos q] at h; cases h
theorem runM_set (t : TableTable) (w n tool : Int) (i : Nat) : ∀ (l : List InterpreterReached) (v : List ApiMotion × ApiPos),runM t w n tool (i : Int) l (v.1.map (setB i),v.2) = match runM t w n tool 0 l v with | .ret e=>.ret e | .go u=>.go (u.1.map (setB i),u.2)
 | [],v=>rfl
 | x :: l,v=>by
  simp only [runM]
  by_cases h : (machV t w n x.at_).2 = 0
  ·rw [if_neg (by simpa using h),if_neg (by simpa using h)]
   have e : addM (machV t w n x.at_).1 x.rate tool (i : Int) (v.1.map (setB i),v.2) = ((addM (machV t w n x.at_).1 x.rate tool 0 v).1.map (setB i),(addM (machV t w n x.at_).1 x.rate tool 0 v).2) := by
    unfold addM
    dsimp only
    cases z : posEq (machV t w n x.at_).1 v.2 with
    | true=>rfl
    | false=>simp [setB]
   rw [e]
   exact runM_set t w n tool i l _
  ·rw [if_pos h,if_pos h]
theorem run_loop {α σ ε : Type} {f : Nat → α → σ → Option (Ex ε σ)} {d : σ → Option ε} {t : TableTable} {w n tool i : Int} (emb : List ApiMotion × ApiPos → σ) (pr : α → InterpreterReached) (g : Int → ε)
  (hf : ∀ (k : Nat) x (v : List ApiMotion × ApiPos),v.1.length ≤ 300000 → f k x (emb v) = some (if (machV t w n (pr x).at_).2 ≠ 0 then .ret (g (machV t w n (pr x).at_).2) else .go (emb (addM (machV t w n (pr x).at_).1 (pr x).rate tool i v)))) :
  ∀ (l : List α) (k : Nat) (v : List ApiMotion × ApiPos),v.1.length + l.length ≤ 300000 → rangeX f d l k (emb v) = match runM t w n tool i (l.map pr) v with | .ret e=>some (g e) | .go u=>d (emb u)
 | [],k,v,_=>rfl
 | x :: l,k,v,hv=>by
  simp only [List.length_cons] at hv
  simp only [rangeX,hf k x v (by omega),List.map_cons,runM]
  by_cases h : (machV t w n (pr x).at_).2 = 0
  ·rw [if_neg (by simpa using h),if_neg (by simpa using h)]
   have := addM_len (machV t w n (pr x).at_).1 (pr x).rate tool i v
   exact run_loop emb pr g hf l (k + 1) _ (by omega)
  ·rw [if_pos h,if_pos h]
def lastTo : ApiPos → List ApiMove → ApiPos
 | p,[]=>p
 | _,x :: l=>lastTo x.To l
theorem ref_loop {ε : Type} {f : Nat → ApiMove → List ApiMotion × R47Machine × ApiPos → Option (Ex ε (List ApiMotion × R47Machine × ApiPos))} {d : List ApiMotion × R47Machine × ApiPos → Option ε} {t : TableTable} {w n tool i : Int} (st : R42State) (cy : R44Cycle) (g : Int → ε)
  (hf : ∀ (k : Nat) (x : ApiMove) (v : List ApiMotion) (a p : ApiPos) (ws : List ApiPos),r47_positions p x = some (ws,0) → ws.length ≤ 4000 → v.length + ws.length ≤ 300000 → f k x (v,R47Machine.mk st cy a,p) = some (match runM t w n tool i (ws.map fun q=>InterpreterReached.mk q x.Rate) (v,a) with | .ret e=>.ret (g e) | .go u=>.go (u.1,R47Machine.mk st cy u.2,x.To))) :
  ∀ (l : List ApiMove) (k : Nat) (v : List ApiMotion) (a p : ApiPos) (fl : List InterpreterReached),ways p l fl → v.length + fl.length ≤ 300000 → rangeX f d l k (v,R47Machine.mk st cy a,p) = match runM t w n tool i fl (v,a) with | .ret e=>some (g e) | .go u=>d (u.1,R47Machine.mk st cy u.2,lastTo p l)
 | [],k,v,a,p,fl,h,_=>by
  have h' : fl = [] := h
  subst h'; rfl
 | x :: l,k,v,a,p,fl,h,hv=>by
  obtain ⟨ws,fl',h1,h2,h3,h4⟩ := h
  subst h4
  simp only [List.length_append,List.length_map] at hv
  rw [runM_append]
  simp only [rangeX,hf k x v a p ws h1 h2 (by omega)]
  cases q : runM t w n tool i (ws.map fun q=>InterpreterReached.mk q x.Rate) (v,a) with
  | ret e=>rfl
  | go u =>
   have hlen := runM_len t w n tool i _ _ _ q
   simp only [List.length_map] at hlen
   exact ref_loop st cy g hf l (k + 1) u.1 u.2 x.To fl' h3 (by omega)
theorem run_fin {R : Type} {f : Nat → InterpreterReached → List ApiMotion × ApiPos → Option (Ex (Ex R (List ApiMotion × ApiPos)) (List ApiMotion × ApiPos))} {L : List InterpreterReached} {v : List ApiMotion × ApiPos} {k : List ApiMotion × ApiPos → Option R} (t : TableTable) (w n tool i : Int) (g : Int → R) (hL : v.1.length + L.length ≤ 300000)
  (hf : ∀ (j : Nat) x (v : List ApiMotion × ApiPos),v.1.length ≤ 300000 → f j x v = some (if (machV t w n x.at_).2 ≠ 0 then .ret (.ret (g (machV t w n x.at_).2)) else .go (addM (machV t w n x.at_).1 x.rate tool i v))) :
  bindX (guardO (okIdx L) (rangeX f (fun v=>some (.go (v.1,v.2))) L 0 v)) k = match runM t w n tool i L v with | .ret e=>some (g e) | .go u=>k u := by
 have h := run_loop (t := t) (w := w) (n := n) (tool := tool) (i := i) (f := f) (d := fun v=>some (.go (v.1,v.2))) (fun v=>v) (fun x=>x) (fun e=>Ex.ret (g e)) hf L 0 v hL
 rw [okIdx_of (by omega),guardO_t,h,List.map_id']
 cases runM t w n tool i L v <;> rfl
theorem inner_fin {ε : Type} {f : Nat → ApiPos → List ApiMotion × R47Machine → Option (Ex (Ex ε (List ApiMotion × R47Machine)) (List ApiMotion × R47Machine))} {ws : List ApiPos} {v : List ApiMotion} {st : R42State} {cy : R44Cycle} {a : ApiPos} {k : List ApiMotion × R47Machine → Option ε} (t : TableTable) (w n tool i rate : Int) (g : Int → ε) (hv : v.length + ws.length ≤ 300000)
  (hf : ∀ (j : Nat) (q : ApiPos) (v : List ApiMotion × ApiPos),v.1.length ≤ 300000 → f j q (v.1,R47Machine.mk st cy v.2) = some (if (machV t w n q).2 ≠ 0 then .ret (.ret (g (machV t w n q).2)) else .go ((addM (machV t w n q).1 rate tool i v).1,R47Machine.mk st cy (addM (machV t w n q).1 rate tool i v).2))) :
  bindX (guardO (okIdx ws) (rangeX f (fun v=>some (.go (v.1,v.2))) ws 0 (v,R47Machine.mk st cy a))) k = match runM t w n tool i (ws.map fun q=>InterpreterReached.mk q rate) (v,a) with | .ret e=>some (g e) | .go u=>k (u.1,R47Machine.mk st cy u.2) := by
 have h := run_loop (t := t) (w := w) (n := n) (tool := tool) (i := i) (f := f) (d := fun v=>some (.go (v.1,v.2))) (fun v=>(v.1,R47Machine.mk st cy v.2)) (fun q=>InterpreterReached.mk q rate) (fun e=>Ex.ret (g e)) hf ws 0 (v,a) hv
 rw [okIdx_of (by omega),guardO_t,h]
 cases runM t w n tool i (ws.map fun q=>InterpreterReached.mk q rate) (v,a) <;> rfl
theorem outer_fin {R : Type} {f : Nat → ApiMove → List ApiMotion × R47Machine × ApiPos → Option (Ex (Ex R (List ApiMotion × R47Machine × ApiPos)) (List ApiMotion × R47Machine × ApiPos))} {l : List ApiMove} {st : R42State} {cy : R44Cycle} {a p : ApiPos} {k : List ApiMotion × R47Machine × ApiPos → Option R} (t : TableTable) (w n tool i : Int) (fl : List InterpreterReached) (g : Int → R) (hw : ways p l fl) (hl : l.length ≤ 3000) (hv : fl.length ≤ 4000)
  (hf : ∀ (j : Nat) (x : ApiMove) (v : List ApiMotion) (a p : ApiPos) (ws : List ApiPos),r47_positions p x = some (ws,0) → ws.length ≤ 4000 → v.length + ws.length ≤ 300000 → f j x (v,R47Machine.mk st cy a,p) = some (match runM t w n tool i (ws.map fun q=>InterpreterReached.mk q x.Rate) (v,a) with | .ret e=>.ret (.ret (g e)) | .go u=>.go (u.1,R47Machine.mk st cy u.2,x.To))) :
  bindX (guardO (okIdx l) (rangeX f (fun v=>some (.go (v.1,v.2.1,v.2.2))) l 0 ([],R47Machine.mk st cy a,p))) k = match runM t w n tool i fl ([],a) with | .ret e=>some (g e) | .go u=>k (u.1,R47Machine.mk st cy u.2,lastTo p l) := by
 have h := ref_loop (t := t) (w := w) (n := n) (tool := tool) (i := i) (f := f) (d := fun v=>some (.go (v.1,v.2.1,v.2.2))) st cy (fun e=>Ex.ret (g e)) hf l 0 [] a p fl hw (by simp; omega)
 rw [okIdx_of (by omega),guardO_t,h]
 cases runM t w n tool i fl ([],a) <;> rfl
theorem posV_c {s : ModalState} {c d : CycleCycle} {b : ApiBlock} {p : ApiPos} (h : ¬ cycB s.Motion = true) : posV s c b p = posV s d b p := by
 unfold posV
 rw [if_neg h,if_neg h]
theorem unit_s {β : Type} (f : Unit → Option β) : bindO (some ()) f = f () := rfl
theorem ijqr (hI hQ cy a b : Bool) : (if hI = true then (if a = true then (if b = true then some true else if hQ = true then some (!cy) else some false) else if hQ = true then some (!cy) else some false) else if hQ = true then some (!cy) else some false) = some ((hI && a && b) || (hQ && !cy)) := by
 cases hI <;> cases hQ <;> cases cy <;> cases a <;> cases b <;> rfl
def sameS (p : ApiPos) (i : Nat) (x : Option (List ApiMotion × ModalState × CycleCycle × Int)) (y : Option (List ApiMotion × R47Machine × Int)) : Prop :=
 ∃ l s d e at_,x = some (l,s,d,e) ∧ y = some (l.map (setB i),R47Machine.mk (backS s) (r44c d) at_,e) ∧ (e = 0 → at_ = endW p l ∧ regMd s ∧ i64P s.Feed)
theorem same_fail {p : ApiPos} {i : Nat} {e : Int} (h : e ≠ 0) : sameS p i (some ([],ModalState.mk 0 0 0 0 0 0 0 0,CycleCycle.mk 0 0 0 0 0 0 false,e)) (some ([],R47Machine.mk (R42State.mk 0 0 0 0 0 0 0 0) (R44Cycle.mk 0 0 0 0 0 0 false) (ApiPos.mk 0 0 0),e)) :=
 ⟨[],_,_,e,⟨0,0,0⟩,rfl,rfl,fun q=>absurd q h⟩
theorem put_feed {s : ModalState} {w : ApiWord} (h : i64P s.Feed) (hw : i64P w.Value) : i64P (putW s w).Feed := by
 unfold putW
 by_cases h1 : w.Letter = 71
 ·rw [if_pos h1]
  by_cases g1 : grp w.Value = 1
  ·rw [if_pos g1]; exact h
  ·rw [if_neg g1]
   by_cases g2 : grp w.Value = 2
   ·rw [if_pos g2]; exact h
   ·rw [if_neg g2]
    by_cases g3 : grp w.Value = 3
    ·rw [if_pos g3]; exact h
    ·rw [if_neg g3]
     by_cases g4 : grp w.Value = 4
     ·rw [if_pos g4]; exact h
     ·rw [if_neg g4]; exact h
 ·rw [if_neg h1]
  by_cases h2 : w.Letter = 70
  ·rw [if_pos h2]; exact hw
  ·rw [if_neg h2]
   by_cases h3 : w.Letter = 84
   ·rw [if_pos h3]; exact h
   ·rw [if_neg h3]
    by_cases h4 : w.Letter = 72
    ·rw [if_pos h4]; exact h
    ·rw [if_neg h4]; exact h
theorem fold_feed : ∀ (l : List ApiWord) (s : ModalState),i64P s.Feed → (∀ w ∈ l,i64P w.Value) → i64P (l.foldl putW s).Feed
 | [],_,h,_=>h
 | w :: l,s,h,hw=>fold_feed l _ (put_feed h (hw w (by simp))) (fun x hx=>hw x (by simp [hx]))
theorem step_same {s : ModalState} {c : CycleCycle} {b : ApiBlock} {t : R45Table} {p : ApiPos} (i : Nat) (hb : okS b) (ht : t.Lengths.length ≤ 1000) (hs : regMd s) (hF : i64P s.Feed) :
    sameS p i (inp_Step s c b (theirsW t) p) (r47_Step (R47Machine.mk (backS s) (r44c c) p) b t (i : Int)) := by
  obtain ⟨hu,hl,hc⟩ := hb
  have hok : okB b := ⟨hu,by omega⟩
  have ht' : (theirsW t).Lengths.length ≤ 1000 := by simp [theirsW]; omega
  obtain ⟨ev,hev,hev2⟩ := r45_Valid_tot t ht
  have hev' : tb_Valid (theirsW t) = some ev := by rw [valid_same t ht,hev]
  obtain ⟨ew,hbk,h41,hew⟩ := valid41 b hl hc
  have hkn := r47_known_eq b hu hl h41
  have hbad : (bindO (bk_Valid b) fun (y2 : Int)=>if (y2 != 0) = true then some true else bindO (md_Check b) fun (y3 : Int)=>if (y3 != 0) = true then some true else bindO (inp_known b) fun (y4 : Bool)=>some (!y4)) = some (!(decide (ew = 0) && (goodW [] b.Words && b.Words.all knW))) := by
    rw [hbk,bindO_s]
    by_cases q : ew = 0
    · rw [if_neg (by simpa using q),decide_eq_true q,Bool.true_and,md_Check_eq b hu (by omega),bindO_s]
      cases goodW [] b.Words with
      | false=>rfl
      | true=>rw [if_pos rfl,if_neg (by decide),inp_known_eq b hl,bindO_s,Bool.true_and]
    · rw [if_pos (by simpa using q),decide_eq_false q]; rfl
  have hchk : inp_checked (theirsW t) p = some (if ev ≠ 0 then 1 else if inR p then 0 else 11) := by
    unfold inp_checked
    rw [show TableTable.mk (theirsW t).Work (theirsW t).Lengths = theirsW t from rfl,hev',bindO_s,inp_inside_eq,bindO_s]
    by_cases v0 : ev = 0
    · rw [if_neg (show ¬ ((ev != 0) = true) by simpa using v0),if_neg (show ¬ (ev ≠ 0) by simpa using v0)]
      by_cases hp : inR p
      · rw [decide_eq_true hp,if_pos hp]; rfl
      · rw [decide_eq_false hp,if_neg hp]; rfl
    · rw [if_pos (by simpa using v0),if_pos v0]
  unfold inp_Step r47_Step
  simp only [unit_s]
  rw [hchk,bindO_s,hev,bindO_s]
  by_cases v0 : ev = 0
  · rw [if_neg (show ¬ (ev ≠ 0) by simpa using v0),if_neg (show ¬ ((ev != 0) = true) by simpa using v0)]
    rw [show r47_InRange (R47Machine.mk (backS s) (r44c c) p).At = r47_InRange p from rfl,r47_InRange_eq,bindO_s]
    by_cases hp : inR p
    · rw [if_pos hp,decide_eq_true hp,if_neg (show ¬ (((0 : Int) != 0) = true) by decide),if_neg (show ¬ ((!true) = true) by decide),hbad,bindO_s,hkn,bindO_s]
      cases hk : (decide (ew = 0) && (goodW [] b.Words && b.Words.all knW)) with
      | false=>exact same_fail (by decide)
      | true =>
        simp only [Bool.and_eq_true,decide_eq_true_eq] at hk
        obtain ⟨k1,k2,k3⟩ := hk
        have hv : validP b := by
          rcases hew with ⟨_,z⟩ | ⟨z,_⟩
          · exact z
          · omega
        have hgood := k2
        rw [if_neg (by simp),if_neg (by simp),md_Apply_eq s b hok,bindO_s,show ApiBlock.mk b.Skip b.Words b.Comment = b from rfl,r42_Apply_eq s b hok,bindO_s,if_pos hgood,if_pos hgood]
        have hr1 := fold_reg b.Words s hs
        have hF1 := fold_feed b.Words s hF (fun w hw=>by
          have := hv.2.2.1 w hw
          unfold okW at this
          unfold i64P; omega)
        generalize b.Words.foldl putW s = s1 at hr1 hF1
        dsimp only
        rw [if_neg (by decide)]
        have cI : ∀ k,inp_cycles k = some (cycB k) := fun _=>rfl
        have cR : ∀ k,r47_Drills k = some (cycB k) := fun _=>rfl
        have eM : (backS s1).Motion = s1.Motion := rfl
        have eFd : (backS s1).Feed = s1.Feed := rfl
        simp only [cI,cR,bindO_s,eM,eFd]
        obtain ⟨c1,hc1⟩ : ∃ c1,(if cycB s1.Motion = true then c else zC) = c1 := ⟨_,rfl⟩
        have i1 : (if (!cycB s1.Motion) = true then some (CycleCycle.mk 0 0 0 0 0 0 false) else some (CycleCycle.mk c.Code c.R c.Z c.Q c.Rate c.Initial c.High)) = some c1 := by
          rw [← hc1]
          cases cycB s1.Motion <;> rfl
        have i2 : (if cycB s1.Motion = true then some (R47Machine.mk (backS s1) (r44c c) p) else some (R47Machine.mk (backS s1) (R44Cycle.mk 0 0 0 0 0 0 false) p)) = some (R47Machine.mk (backS s1) (r44c c1) p) := by
          rw [← hc1]
          cases cycB s1.Motion <;> rfl
        have a1 : inp_has b [88,89,90,73,74,81,82] = some (hasW b [88,89,90,73,74,81,82]) := inp_has_eq b _ hl (by decide)
        have a2 : inp_has b [73,74] = some (hasW b [73,74]) := inp_has_eq b _ hl (by decide)
        have a3 : inp_has b [81,82] = some (hasW b [81,82]) := inp_has_eq b _ hl (by decide)
        have b1 : r47_some b [88,89,90,73,74,81,82] = some (hasW b [88,89,90,73,74,81,82]) := r47_some_eq b _ hl (by decide)
        have b2 : r47_some b [73,74] = some (hasW b [73,74]) := r47_some_eq b _ hl (by decide)
        have b3 : r47_some b [81,82] = some (hasW b [81,82]) := r47_some_eq b _ hl (by decide)
        rw [i1,bindO_s,i2,bindO_s]
        simp only [a1,a2,a3,b1,b2,b3,bindO_s]
        cases hXYZ : hasW b [88,89,90,73,74,81,82] with
        | false=>exact ⟨[],s1,c1,0,p,rfl,rfl,fun _=>⟨rfl,hr1,hF1⟩⟩
        | true =>
          rw [if_neg (show ¬ ((!true) = true) by decide),if_neg (show ¬ ((!true) = true) by decide),ijqr,bindO_s,bindO_s]
          cases hbad2 : ((hasW b [73,74] && (s1.Motion != 2000) && (s1.Motion != 3000)) || (hasW b [81,82] && !(cycB s1.Motion))) with
          | true=>exact same_fail (by decide)
          | false =>
            rw [if_neg (show ¬ (false = true) by decide),if_neg (show ¬ (false = true) by decide)]
            cases hst : ((s1.Motion == 80000) || ((s1.Motion != 0) && (decide (s1.Feed ≤ 0)))) with
            | true=>exact same_fail (by decide)
            | false =>
              rw [if_neg (show ¬ (false = true) by decide),if_neg (show ¬ (false = true) by decide)]
              have hne : s1.Motion ≠ 80000 := by
                intro q; rw [q] at hst; simp at hst
              obtain ⟨n,hn⟩ : ∃ n,(if (s1.Length == 43000) = true then some (IntKind.i64.wrap (Int.tdiv s1.Offset 1000)) else some 0) = some n := by
                cases (s1.Length == 43000) <;> exact ⟨_,rfl⟩
              have hn2 : r47_number (backS s1) = some n := hn
              have eW : (backS s1).Work = s1.Work := rfl
              have eT : (backS s1).Tool = s1.Tool := rfl
              obtain ⟨wp,hwp,hwr⟩ := tb_Work_tot (theirsW t) s1.Work n p ht'
              have hwp2 : r45_Work t s1.Work n p = some wp := by rw [← work_same t _ _ _ ht,hwp]
              rw [hn,bindO_s,hn2,bindO_s,eW,eT,hwp,hwp2,bindO_s,bindO_s]
              by_cases w0 : wp.2 = 0
              · rw [if_neg (by simpa using w0),if_neg (by simpa using w0)]
                have hir := hwr w0
                obtain ⟨ml,mc,hml,hml2⟩ := r47_moves_eq (c := c) (backS s) p hv hl hir hF1 hr1 hne
                have hlenV := posV_len s1 c b wp.1
                have hpc : posV s1 c1 b wp.1 = posV s1 c b wp.1 := by
                  rw [← hc1]
                  by_cases q : cycB s1.Motion = true
                  · rw [if_pos q]
                  · exact posV_c q
                rw [inp_positions_eq hv hl hir hF1,hpc,bindO_s]
                show sameS p i _ (bindO (r47_moves (R47Machine.mk (backS s) (r44c c) p) (backS s1) b wp.1) _)
                rw [hml,bindO_s]
                generalize hpv : posV s1 c b wp.1 = pv at *
                obtain ⟨fl,d,e⟩ := pv
                dsimp only at hml2 hlenV ⊢
                by_cases e0 : e = 0
                · rw [if_neg (by simpa using e0),if_neg (by simpa using e0)]
                  obtain ⟨m1,m2,m3⟩ := hml2 e0
                  subst m1
                  rw [run_fin (theirsW t) s1.Work n (IntKind.i64.wrap (Int.tdiv s1.Tool 1000)) 0 (fun e=>([],zS,zC,e)) (by simpa using (show fl.length ≤ 300000 by omega)),
                    outer_fin (theirsW t) s1.Work n (IntKind.i64.wrap (Int.tdiv s1.Tool 1000)) (i : Int) fl (fun e=>([],R47Machine.mk (backS zS) (r44c zC) (ApiPos.mk 0 0 0),e)) m2 m3 (by omega)]
                  · have hset := runM_set (theirsW t) s1.Work n (IntKind.i64.wrap (Int.tdiv s1.Tool 1000)) i fl ([],p)
                    rw [show (([] : List ApiMotion).map (setB i),p) = (([] : List ApiMotion),p) from rfl] at hset
                    rw [hset]
                    cases hrun : runM (theirsW t) s1.Work n (IntKind.i64.wrap (Int.tdiv s1.Tool 1000)) 0 fl ([],p) with
                    | ret e1 =>
                      have he1 : e1 ≠ 0 := runM_ret _ _ _ _ _ _ _ _ hrun
                      exact same_fail he1
                    | go u =>
                      have hu2 := runM_end (theirsW t) s1.Work n _ 0 p fl ([],p) u hrun rfl
                      exact ⟨u.1,s1,d,0,u.2,rfl,rfl,fun _=>⟨hu2,hr1,hF1⟩⟩
                  · intro j x v a q ws h1 h2 h3
                    dsimp only
                    rw [h1,bindO_s,if_neg (by simp),inner_fin (theirsW t) s1.Work n (IntKind.i64.wrap (Int.tdiv s1.Tool 1000)) (i : Int) x.Rate (fun e=>Ex.ret (Ex.ret (Ex.ret ([],R47Machine.mk (backS zS) (r44c zC) (ApiPos.mk 0 0 0),e)))) h3]
                    · cases runM (theirsW t) s1.Work n (IntKind.i64.wrap (Int.tdiv s1.Tool 1000)) (i : Int) (ws.map fun q=>InterpreterReached.mk q x.Rate) (v,a) <;> rfl
                    · intro j q v hv3
                      dsimp only
                      rw [bindO_s,show R45Table.mk t.Work t.Lengths = t from rfl,← machine_same t _ _ _ ht,machV_eq ht',bindO_s]
                      by_cases z : (machV (theirsW t) s1.Work n q).2 = 0
                      · rw [if_neg (show ¬ (((machV (theirsW t) s1.Work n q).2 != 0) = true) by simpa using z),if_neg (show ¬ ((machV (theirsW t) s1.Work n q).2 ≠ 0) by simpa using z)]
                        unfold addM posEq
                        rw [okLen_of (by omega),guardO_t]
                        dsimp only
                        cases (((machV (theirsW t) s1.Work n q).1.X == v.2.X) && (((machV (theirsW t) s1.Work n q).1.Y == v.2.Y) && ((machV (theirsW t) s1.Work n q).1.Z == v.2.Z))) <;> rfl
                      · rw [if_pos (show ((machV (theirsW t) s1.Work n q).2 != 0) = true by simpa using z),if_pos (show (machV (theirsW t) s1.Work n q).2 ≠ 0 by simpa using z)]
                        rfl
                  · intro j x v hv3
                    rw [show TableTable.mk (theirsW t).Work (theirsW t).Lengths = theirsW t from rfl,machV_eq ht',bindO_s]
                    by_cases z : (machV (theirsW t) s1.Work n x.at_).2 = 0
                    · rw [if_neg (show ¬ (((machV (theirsW t) s1.Work n x.at_).2 != 0) = true) by simpa using z),if_neg (show ¬ ((machV (theirsW t) s1.Work n x.at_).2 ≠ 0) by simpa using z)]
                      unfold addM posEq
                      rw [okLen_of (by omega),guardO_t]
                      cases (((machV (theirsW t) s1.Work n x.at_).1.X == v.2.X) && (((machV (theirsW t) s1.Work n x.at_).1.Y == v.2.Y) && ((machV (theirsW t) s1.Work n x.at_).1.Z == v.2.Z))) <;> rfl
                    · rw [if_pos (show ((machV (theirsW t) s1.Work n x.at_).2 != 0) = true by simpa using z),if_pos (show (machV (theirsW t) s1.Work n x.at_).2 ≠ 0 by simpa using z)]
                      rfl
                · rw [if_pos (by simpa using e0),if_pos (by simpa using e0)]
                  exact same_fail e0
              · rw [if_pos (by simpa using w0),if_pos (by simpa using w0)]
                exact same_fail w0
    · rw [if_neg hp,decide_eq_false hp]
      exact same_fail (by decide)
  · have v1 : ev = 1 := by omega
    subst v1
    exact same_fail (e := 1) (by decide)
end Go.Proofs.YtopjpenbieojmaaGreatDoor
namespace Go.Proofs.YtopjpenbieojmaaGreatDoor
open Go.RowKit
set_option linter.unusedVariables false
set_option linter.unusedSimpArgs false
theorem one_M : ∀ (l : List ApiWord) (seen : List Int),goodW seen l = true → ((87 : Int) ∈ seen → (l.filter fun w=>w.Letter == 77) = []) ∧ (l.filter fun w=>w.Letter == 77).length ≤ 1
 | [],_,_=>by simp
 | w :: l,seen,h=>by
  simp only [goodW,Bool.and_eq_true] at h
  obtain ⟨⟨⟨_,_⟩,h3⟩,h4⟩ := h
  have ih := one_M l (clsW w :: seen) h4
  by_cases hw : w.Letter = 77
  ·have hc : clsW w = 87 := by rw [clsW_letter (by omega),hw]; rfl
   have hrest : (l.filter fun w=>w.Letter == 77) = [] := ih.1 (by rw [hc]; simp)
   have hnot : (87 : Int) ∉ seen := by rw [hc] at h3; simpa using h3
   refine ⟨fun q=>absurd q hnot,?_⟩
   simp [hw,hrest]
  ·have : (w.Letter == 77) = false := by simpa using hw
   simp only [List.filter_cons,this,Bool.false_eq_true,if_false]
   exact ⟨fun q=>ih.1 (List.mem_cons_of_mem _ q),ih.2⟩
theorem r47_ends_eq {b : ApiBlock} (hl : b.Words.length ≤ 1000) (h : goodW [] b.Words = true) : r47_ends b = some (endsW b) := by
 have h1 := (one_M b.Words [] h).2
 unfold r47_ends endsW
 rw [r47_value_eq b 77 hl,bindO_s,find_codes]
 unfold codesW
 cases hf : b.Words.filter fun w=>w.Letter == 77 with
 | nil=>rfl
 | cons x l =>
  rw [hf] at h1
  simp only [List.length_cons] at h1
  have : l = [] := List.length_eq_zero_iff.1 (by omega)
  subst this
  simp only [List.map_cons,List.map_nil]
  congr 1
  rw [Bool.eq_iff_iff,List.contains_iff_mem,List.mem_singleton,beq_iff_eq]
  exact eq_comm
theorem step_ref {s : ModalState} {c : CycleCycle} {b : ApiBlock} {t : R45Table} {p : ApiPos} (i : Nat) (hb : okS b) (ht : t.Lengths.length ≤ 1000) (hs : regMd s) (hF : i64P s.Feed) :
  ∃ at_,r47_Step (R47Machine.mk (backS s) (r44c c) p) b t (i : Int) = some ((stepT s c b (theirsW t) p).1.map (setB i),R47Machine.mk (backS (stepT s c b (theirsW t) p).2.1) (r44c (stepT s c b (theirsW t) p).2.2.1) at_,(stepT s c b (theirsW t) p).2.2.2) ∧ ((stepT s c b (theirsW t) p).2.2.2 = 0 → at_ = endW p (stepT s c b (theirsW t) p).1 ∧ regMd (stepT s c b (theirsW t) p).2.1 ∧ i64P (stepT s c b (theirsW t) p).2.1.Feed) := by
 obtain ⟨l,s',d,e,a,h1,h2,h3⟩ := step_same (c := c) (p := p) i hb ht hs hF
 rw [stepT_eq hb (by simp [theirsW]; omega)] at h1
 injection h1 with h1
 rw [h1]
 exact ⟨a,h2,h3⟩
theorem blocks_loop {f : Nat → ApiBlock → List ApiMotion × R47Machine → Option (Ex (Ex (List ApiMotion × R47Alarm) (List ApiMotion × R47Machine)) (List ApiMotion × R47Machine))} {t : R45Table} {N : Nat} {L : List ApiBlock} (ht : t.Lengths.length ≤ 1000) (hb : ∀ b ∈ L,okS b)
  (hf : ∀ (i : Nat) (b : ApiBlock) (o : List ApiMotion) (s : ModalState) (c : CycleCycle) (p : ApiPos),b ∈ L → o.length ≤ 20000 → regMd s → i64P s.Feed → f i b (o,R47Machine.mk (backS s) (r44c c) p) = some (
    if (stepT s c b (theirsW t) p).2.2.2 ≠ 0 then .ret (.ret (o,⟨(i : Int),(stepT s c b (theirsW t) p).2.2.2⟩))
    else if o.length + (stepT s c b (theirsW t) p).1.length > 20000 then .ret (.ret (o,⟨(i : Int),3⟩))
    else if endsW b = true then .ret (.ret (o ++ (stepT s c b (theirsW t) p).1.map (setB i),⟨-1,0⟩))
    else .go (o ++ (stepT s c b (theirsW t) p).1.map (setB i),R47Machine.mk (backS (stepT s c b (theirsW t) p).2.1) (r44c (stepT s c b (theirsW t) p).2.2.1) (endW p (stepT s c b (theirsW t) p).1)))) :
  ∀ (l : List ApiBlock) (i : Nat) (o : List ApiMotion) (s : ModalState) (c : CycleCycle) (p : ApiPos),(∀ b ∈ l,b ∈ L) → o.length ≤ 20000 → regMd s → i64P s.Feed →
   bindX (rangeX f (fun v=>some (.go (v.1,v.2))) l i (o,R47Machine.mk (backS s) (r44c c) p)) (fun v=>some (v.1,R47Alarm.mk (N : Int) 13)) = some ((runB (theirsW t) N i l (o,p,s,c)).1,R47Alarm.mk (runB (theirsW t) N i l (o,p,s,c)).2.Block (runB (theirsW t) N i l (o,p,s,c)).2.Code)
 | [],i,o,s,c,p,_,_,_,_=>rfl
 | b :: l,i,o,s,c,p,hm,ho,hs,hF=>by
  have hbL := hm b (by simp)
  have hR := step_ref (c := c) (p := p) i (hb b hbL) ht hs hF
  simp only [rangeX,hf i b o s c p hbL ho hs hF,runB]
  obtain ⟨a,_,hR2⟩ := hR
  by_cases h1 : (stepT s c b (theirsW t) p).2.2.2 = 0
  ·obtain ⟨_,r1,r2⟩ := hR2 h1
   by_cases h2 : o.length + (stepT s c b (theirsW t) p).1.length > 20000
   ·simp only [h1,h2,ne_eq,not_true_eq_false,if_false,if_true,bindX_r]
   ·by_cases h3 : endsW b = true
    ·simp only [h1,h2,h3,ne_eq,not_true_eq_false,if_false,if_true,bindX_r]
    ·simp only [h1,h2,h3,ne_eq,not_true_eq_false,if_false]
     exact blocks_loop ht hb hf l (i + 1) _ _ _ _ (fun b hb=>hm b (by simp [hb])) (by simp; omega) r1 r2
  ·simp only [h1,ne_eq,not_false_eq_true,if_true,bindX_r]
theorem r47_Blocks_eq (L : List ApiBlock) (t : R45Table) (p : ApiPos) (e : Int) (he : inp_checked (theirsW t) p = some e) (hL : L.length ≤ 1000) (hb : ∀ b ∈ L,okS b) (ht : t.Lengths.length ≤ 1000) :
  r47_Blocks L t p = some (if e ≠ 0 then ([],⟨-1,e⟩) else ((runB (theirsW t) L.length 0 L ([],p,newS,zC)).1,⟨(runB (theirsW t) L.length 0 L ([],p,newS,zC)).2.Block,(runB (theirsW t) L.length 0 L ([],p,newS,zC)).2.Code⟩)) := by
 have ht' : (theirsW t).Lengths.length ≤ 1000 := by simp [theirsW]; omega
 obtain ⟨ev,hev,hev2⟩ := r45_Valid_tot t ht
 have hev' : tb_Valid (theirsW t) = some ev := by rw [valid_same t ht,hev]
 unfold inp_checked at he
 rw [show TableTable.mk (theirsW t).Work (theirsW t).Lengths = theirsW t from rfl,hev',bindO_s,inp_inside_eq,bindO_s] at he
 unfold r47_Blocks
 rw [hev,bindO_s,r47_InRange_eq,bindO_s]
 by_cases v0 : ev = 0
 ·rw [if_neg (by simpa using v0)] at he
  rw [if_neg (by simpa using v0)]
  by_cases hp : inR p
  ·rw [decide_eq_true hp,if_neg (by simp)] at he
   injection he with he
   rw [decide_eq_true hp,if_neg (by simp),← he,if_neg (by decide)]
   unfold r42_New
   rw [bindO_s,okIdx_of (by omega),guardO_t]
   refine blocks_loop ht hb (fun i b o s c p hbL ho hs hF=>?_) L 0 [] newS zC p (fun b h=>h) (by simp) new_reg (by unfold i64P newS; dsimp only; omega)
   have hbk := hb b hbL
   obtain ⟨a,hR,hR2⟩ := step_ref (c := c) (p := p) i hbk ht hs hF
   have hE := stepT_E (s := s) (c := c) (p := p) (t := theirsW t) hbk ht'
   dsimp only
   rw [hR,bindO_s]
   generalize stepT s c b (theirsW t) p = r at hE hR2 ⊢
   obtain ⟨hlen,_,hE2⟩ := hE
   dsimp only
   by_cases h1 : r.2.2.2 = 0
   ·obtain ⟨r1,_,_⟩ := hR2 h1
    have hw : IntKind.i64.wrap ((o.length : Int) + ((r.1.map (setB i)).length : Int)) = (o.length : Int) + (r.1.length : Int) := by
     rw [List.length_map]; exact wrap_i64 (by omega) (by omega)
    rw [hw,if_neg (show ¬ (r.2.2.2 ≠ 0) by simpa using h1),h1]
    by_cases h2 : o.length + r.1.length > 20000
    ·rw [decide_eq_true (show (o.length : Int) + (r.1.length : Int) > 20000 by omega),if_pos (by rfl),bindO_s,if_pos (by decide),if_pos h2]
    ·rw [decide_eq_false (show ¬ (o.length : Int) + (r.1.length : Int) > 20000 by omega),if_neg (by decide),bindO_s,if_neg (by decide),if_neg h2,okLen_of (by simp; omega),guardO_t,r47_ends_eq hbk.2.1 (hE2 h1).2,bindO_s,r1]
     cases endsW b <;> rfl
   ·rw [beq_false_of_ne h1,Bool.false_and,if_neg (by simp),bindO_s,if_pos (by simpa using h1),if_pos h1]
  ·rw [decide_eq_false hp,if_pos (by simp)] at he
   injection he with he
   rw [decide_eq_false hp,if_pos (by simp),← he,if_pos (by decide)]
 ·have v1 : ev = 1 := by omega
  subst v1
  rw [if_pos (by decide)] at he
  injection he with he
  rw [if_pos (by decide),← he,if_pos (by decide)]
end Go.Proofs.YtopjpenbieojmaaGreatDoor
