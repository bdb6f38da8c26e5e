/-
  Vd, Vf, Vg, Vi in one text.
-/
import Derived.Test.YtopjpenbieojmaaGreatDoorVx
import Derived.Test.YtopjpenbieojmaaGreatDoorQx
namespace Go.Proofs.YtopjpenbieojmaaGreatDoor
open Go.RowKit
set_option linter.unusedVariables false
set_option linter.unusedSimpArgs false
def prn (c : UInt8) : Bool := decide ((c.toNat : Int) ≥ 32) && (decide ((c.toNat : Int) ≤ 126) && (((c.toNat : Int) != 40) && ((c.toNat : Int) != 41)))
def okW (w : ApiWord) : Prop := 65 ≤ w.Letter ∧ w.Letter ≤ 90 ∧ -1000000000000 ≤ w.Value ∧ w.Value ≤ 1000000000000
def validP (b : ApiBlock) : Prop := b.Words.length ≤ 16 ∧ b.Comment.length ≤ 100 ∧ (∀ w ∈ b.Words,okW w) ∧ ∀ c ∈ b.Comment,prn c = true
theorem bk_Valid_vp (b : ApiBlock) (h1 : b.Words.length ≤ 1000) (h2 : b.Comment.length ≤ 1000) : Tot (bk_Valid b) (fun e=>(e = 0 ∧ validP b) ∨ (e = 1 ∧ ¬ validP b)) := by
 unfold bk_Valid
 have hsz : (decide ((b.Words.length : Int) > 16) || decide ((b.Comment.length : Int) > 100)) = decide (¬ (b.Words.length ≤ 16 ∧ b.Comment.length ≤ 100)) := by
  rw [Bool.eq_iff_iff]; simp only [Bool.or_eq_true,decide_eq_true_eq]; omega
 rw [hsz]
 refine Tot.ite (fun h=>.ok (.inr ⟨rfl,fun q=>of_decide_eq_true h ⟨q.1,q.2.1⟩⟩)) (fun h=>?_)
 have hle : b.Words.length ≤ 16 ∧ b.Comment.length ≤ 100 := by simpa using h
 refine Tot.bindX (E := fun _=>∀ w ∈ b.Words,okW w) (TotX.of (Tot.mono (E := fun x=>(x = .ret 1 ∧ ¬ validP b) ∨ (x = .go () ∧ ∀ w ∈ b.Words,okW w)) ?_ ?_)) (fun x hx=>?_)
 ·refine Tot.guard (okIdx_of (by omega)) (Tot.range (fun i _=>∀ (k : Nat) w,k < i → b.Words[k]? = some w → okW w) _ (fun k w q=>by omega) (fun i x v hx hr=>?_) (fun v hr=>.ok (.inr ⟨rfl,fun w hw=>?_⟩)))
  ·have hc : (decide (x.Letter < 65) || (decide (x.Letter > 90) || (decide (x.Value > 1000000000000) || decide (x.Value < -1000000000000)))) = decide (¬ (65 ≤ x.Letter ∧ x.Letter ≤ 90 ∧ -1000000000000 ≤ x.Value ∧ x.Value ≤ 1000000000000)) := by
    rw [Bool.eq_iff_iff]; simp only [Bool.or_eq_true,decide_eq_true_eq]; omega
   rw [hc]
   refine TotX.ite (fun h2=>.ret (.inl ⟨rfl,fun q=>of_decide_eq_true h2 (q.2.2.1 x (List.mem_of_getElem? hx))⟩)) (fun h2=>.go (fun k w hk hw=>?_))
   rcases Nat.lt_or_ge k i with q | q
   ·exact hr k w q hw
   ·obtain rfl : k = i := by omega
    rw [hx] at hw; injection hw with hw; subst hw
    have h3 : 65 ≤ x.Letter ∧ x.Letter ≤ 90 ∧ -1000000000000 ≤ x.Value ∧ x.Value ≤ 1000000000000 := Decidable.not_not.1 (of_decide_eq_false h2)
    exact h3
  ·obtain ⟨k,hk⟩ := List.mem_iff_getElem?.1 hw
   exact hr k w (getElem_lt hk) hk
 ·rintro x (⟨rfl,h3⟩ | ⟨rfl,h3⟩)
  ·exact .inr ⟨rfl,h3⟩
  ·exact h3
 ·refine Tot.bindX (E := fun _=>validP b) (TotX.of (Tot.mono (E := fun x=>(x = .ret 1 ∧ ¬ validP b) ∨ (x = .go () ∧ validP b)) ?_ ?_)) (fun _ hv=>.ok (.inl ⟨rfl,hv⟩))
  ·refine Tot.guard (okIdx_of (by simp [bytesI]; omega)) (Tot.range (fun i _=>∀ (k : Nat) c,k < i → b.Comment[k]? = some c → prn c = true) _ (fun k w q=>by omega) (fun i y v hy hr=>?_) (fun v hr=>.ok (.inr ⟨rfl,hle.1,hle.2,hx,fun c hc=>?_⟩)))
   ·unfold bytesI at hy
    rw [List.getElem?_map] at hy
    cases hq : b.Comment[i]? with
    | none=>rw [hq] at hy; cases hy
    | some c =>
     rw [hq] at hy; injection hy with hy; subst hy
     have hp : bk_printable (c.toNat : Int) = some (prn c) := rfl
     rw [hp,bindO_s]
     refine TotX.ite (fun h2=>.ret (.inl ⟨rfl,fun q=>?_⟩)) (fun h2=>.go (fun k w hk hw=>?_))
     ·have := q.2.2.2 c (List.mem_of_getElem? hq)
      rw [this] at h2; cases h2
     ·rcases Nat.lt_or_ge k i with q | q
      ·exact hr k w q hw
      ·obtain rfl : k = i := by omega
       rw [hq] at hw; injection hw with hw; subst hw
       simpa using h2
   ·obtain ⟨k,hk⟩ := List.mem_iff_getElem?.1 hc
    exact hr k c (by have := getElem_lt hk; simpa [bytesI] using this) hk
  ·rintro x (⟨rfl,h3⟩ | ⟨rfl,h3⟩)
   ·exact .inr ⟨rfl,h3⟩
   ·exact h3
theorem r41_Valid_vp (b : ApiBlock) (h1 : b.Words.length ≤ 1000) (h2 : b.Comment.length ≤ 1000) : Tot (r41_Valid b) (fun e=>(e = 0 ∧ validP b) ∨ (e = 1 ∧ ¬ validP b)) := by
 unfold r41_Valid
 have hsz : (decide ((b.Words.length : Int) > 16) || decide ((b.Comment.length : Int) > 100)) = decide (¬ (b.Words.length ≤ 16 ∧ b.Comment.length ≤ 100)) := by
  rw [Bool.eq_iff_iff]; simp only [Bool.or_eq_true,decide_eq_true_eq]; omega
 rw [hsz]
 refine Tot.ite (fun h=>.ok (.inr ⟨rfl,fun q=>of_decide_eq_true h ⟨q.1,q.2.1⟩⟩)) (fun h=>?_)
 have hle : b.Words.length ≤ 16 ∧ b.Comment.length ≤ 100 := by simpa using h
 refine Tot.bindX (E := fun _=>∀ w ∈ b.Words,okW w) (TotX.of (Tot.mono (E := fun x=>(x = .ret 1 ∧ ¬ validP b) ∨ (x = .go () ∧ ∀ w ∈ b.Words,okW w)) ?_ ?_)) (fun x hx=>?_)
 ·refine Tot.guard (okIdx_of (by omega)) (Tot.range (fun i _=>∀ (k : Nat) w,k < i → b.Words[k]? = some w → okW w) _ (fun k w q=>by omega) (fun i x v hx hr=>?_) (fun v hr=>.ok (.inr ⟨rfl,fun w hw=>?_⟩)))
  ·have hc : (decide (x.Letter < 65) || (decide (x.Letter > 90) || (decide (x.Value > 1000000000000) || decide (x.Value < -1000000000000)))) = decide (¬ (65 ≤ x.Letter ∧ x.Letter ≤ 90 ∧ -1000000000000 ≤ x.Value ∧ x.Value ≤ 1000000000000)) := by
    rw [Bool.eq_iff_iff]; simp only [Bool.or_eq_true,decide_eq_true_eq]; omega
   rw [hc]
   refine TotX.ite (fun h2=>.ret (.inl ⟨rfl,fun q=>of_decide_eq_true h2 (q.2.2.1 x (List.mem_of_getElem? hx))⟩)) (fun h2=>.go (fun k w hk hw=>?_))
   rcases Nat.lt_or_ge k i with q | q
   ·exact hr k w q hw
   ·obtain rfl : k = i := by omega
    rw [hx] at hw; injection hw with hw; subst hw
    have h3 : 65 ≤ x.Letter ∧ x.Letter ≤ 90 ∧ -1000000000000 ≤ x.Value ∧ x.Value ≤ 1000000000000 := Decidable.not_not.1 (of_decide_eq_false h2)
    exact h3
  ·obtain ⟨k,hk⟩ := List.mem_iff_getElem?.1 hw
   exact hr k w (getElem_lt hk) hk
 ·rintro x (⟨rfl,h3⟩ | ⟨rfl,h3⟩)
  ·exact .inr ⟨rfl,h3⟩
  ·exact h3
 ·refine Tot.bindX (E := fun _=>validP b) (TotX.of (Tot.mono (E := fun x=>(x = .ret 1 ∧ ¬ validP b) ∨ (x = .go () ∧ validP b)) ?_ ?_)) (fun _ hv=>.ok (.inl ⟨rfl,hv⟩))
  ·refine Tot.guard (okIdx_of (by omega)) (Tot.range (fun i _=>∀ (k : Nat) c,k < i → b.Comment[k]? = some c → prn c = true) _ (fun k w q=>by omega) (fun i c v hq hr=>?_) (fun v hr=>.ok (.inr ⟨rfl,hle.1,hle.2,hx,fun c hc=>?_⟩)))
   ·have hp : r41_printable (c.toNat : Int) = some (prn c) := rfl
    rw [hp,bindO_s]
    refine TotX.ite (fun h2=>.ret (.inl ⟨rfl,fun q=>?_⟩)) (fun h2=>.go (fun k w hk hw=>?_))
    ·have := q.2.2.2 c (List.mem_of_getElem? hq)
     rw [this] at h2; cases h2
    ·rcases Nat.lt_or_ge k i with q | q
     ·exact hr k w q hw
     ·obtain rfl : k = i := by omega
      rw [hq] at hw; injection hw with hw; subst hw
      simpa using h2
   ·obtain ⟨k,hk⟩ := List.mem_iff_getElem?.1 hc
    exact hr k c (getElem_lt hk) hk
  ·rintro x (⟨rfl,h3⟩ | ⟨rfl,h3⟩)
   ·exact .inr ⟨rfl,h3⟩
   ·exact h3
theorem valid41 (b : ApiBlock) (h1 : b.Words.length ≤ 1000) (h2 : b.Comment.length ≤ 1000) : ∃ e,bk_Valid b = some e ∧ r41_Valid b = some e ∧ ((e = 0 ∧ validP b) ∨ (e = 1 ∧ ¬ validP b)) := by
 obtain ⟨e,he,h⟩ := bk_Valid_vp b h1 h2
 obtain ⟨f,hf,g⟩ := r41_Valid_vp b h1 h2
 refine ⟨e,he,?_,h⟩
 rw [hf]
 congr 1
 rcases h with ⟨a,b1⟩ | ⟨a,b1⟩ <;> rcases g with ⟨c,d⟩ | ⟨c,d⟩
 ·rw [a,c]
 ·exact absurd b1 d
 ·exact absurd d b1
 ·rw [a,c]
theorem find_codes (b : ApiBlock) (c : Int) : findW b c = match codesW b c with | []=>(0,false) | x :: _=>(x,true) := by
 unfold findW codesW
 have h : (b.Words.filter fun w=>w.Letter == c).head? = b.Words.find? (fun w=>w.Letter == c) := List.head?_filter
 rw [← h]
 cases b.Words.filter fun w=>w.Letter == c <;> rfl
theorem r41_Find_eq (b : ApiBlock) (c : Int) (hl : b.Words.length ≤ 1000) : r41_Find b c = some (findW b c) := by
 have hc : r41_Codes b c = some (codesW b c) := bk_Codes_eq b c hl
 unfold r41_Find
 rw [hc,bindO_s,find_codes]
 cases codesW b c with
 | nil=>rfl
 | cons x l =>
  have : (((x :: l).length : Int) == 0) = false := by simp; omega
  simp only [this,Bool.false_eq_true,if_false]
  rfl
theorem findW_mem {b : ApiBlock} {c : Int} (h : (findW b c).2 = true) : ∃ w ∈ b.Words,w.Letter = c ∧ w.Value = (findW b c).1 := by
 unfold findW at *
 cases hf : b.Words.find? (fun w=>w.Letter == c) with
 | none=>rw [hf] at h; cases h
 | some w =>
  have h1 := List.find?_some hf
  exact ⟨w,List.mem_of_find?_eq_some hf,by simpa using h1,rfl⟩
theorem findW_bd {b : ApiBlock} (hv : validP b) (c : Int) : -1000000000000 ≤ (findW b c).1 ∧ (findW b c).1 ≤ 1000000000000 := by
 cases h : (findW b c).2 with
 | true =>
  obtain ⟨w,hw,_,h2⟩ := findW_mem h
  have := hv.2.2.1 w hw
  unfold okW at this
  omega
 | false =>
  have : (findW b c).1 = 0 := by
   unfold findW at *
   cases hf : b.Words.find? (fun w=>w.Letter == c) with
   | none=>rfl
   | some w=>rw [hf] at h; cases h
  omega
theorem hasW_iff (b : ApiBlock) (l : List UInt8) : hasW b l = b.Words.any (fun w=>l.any fun c=>w.Letter == (c.toNat : Int)) := by
 rw [Bool.eq_iff_iff]
 unfold hasW
 simp only [List.any_eq_true]
 constructor
 ·rintro ⟨c,hc,h⟩
  obtain ⟨w,hw,h1,_⟩ := findW_mem h
  exact ⟨w,hw,c,hc,by simpa using h1⟩
 ·rintro ⟨w,hw,c,hc,h⟩
  refine ⟨c,hc,?_⟩
  unfold findW
  cases hf : b.Words.find? (fun w=>w.Letter == (c.toNat : Int)) with
  | none =>
   have := List.find?_eq_none.1 hf w hw
   exact absurd h this
  | some _=>rfl
end Go.Proofs.YtopjpenbieojmaaGreatDoor
namespace Go.Proofs.YtopjpenbieojmaaGreatDoor
open Go.RowKit
set_option linter.unusedVariables false
set_option linter.unusedSimpArgs false
theorem r42_Group_eq (c : Int) : r42_Group c = some (grp c) := by
 rcases grp_cases c with h | h
 ·simp only [codes1,codes2,codes3,codes4,codes5,List.cons_append,List.nil_append,List.mem_cons,List.not_mem_nil,or_false] at h
  rcases h with h | h | h | h | h | h | h | h | h | h | h | h | h | h | h | h | h | h | h | h <;> (subst h; decide)
 ·simp only [codes1,codes2,codes3,codes4,codes5,List.cons_append,List.nil_append,List.mem_cons,List.not_mem_nil,or_false,not_or] at h
  have e : ∀ k : Int,c ≠ k → (c == k) = false := fun k hk=>by simpa using hk
  have w : ∀ k : Int,0 ≤ k → k ≤ 1000000 → IntKind.i64.wrap k = k := fun k h1 h2=>by
   unfold IntKind.wrap; simp [IntKind.signed,IntKind.bits]; omega
  simp [r42_Group,r42_codes,rangeX,okIdx,grp,codes1,codes2,codes3,codes4,codes5,h,w]
  rfl
def backS (s : ModalState) : R42State := ⟨s.Motion,s.Distance,s.Work,s.Length,s.Return,s.Feed,s.Tool,s.Offset⟩
theorem r42_one_eq (s : ModalState) (w : ApiWord) (h : w.Letter = 71 → grp w.Value ≠ 0) : r42_one (backS s) w = some (backS (putW s w)) := by
 unfold r42_one putW
 by_cases h1 : w.Letter = 71
 ·have h0 := h h1
  rcases grp_in w.Value with q | q | q | q | q | q
  ·exact absurd q h0
  all_goals simp [h1,r42_Group_eq,q,backS]
 ·by_cases h2 : w.Letter = 70
  ·simp [h2,backS]
  ·by_cases h3 : w.Letter = 84
   ·simp [h3,backS]
   ·by_cases h4 : w.Letter = 72 <;> simp [h1,h2,h3,h4,backS]
theorem r42_class_eq (w : ApiWord) (h : u8W w) : r42_class w = some (clsW w) := by
 have hw : ∀ k : Int,0 ≤ k → k ≤ 1000000 → IntKind.i64.wrap k = k := fun k h1 h2=>by
  unfold IntKind.wrap; simp [IntKind.signed,IntKind.bits]; omega
 obtain ⟨h1,h2⟩ := h
 unfold r42_class clsW
 by_cases q : w.Letter = 71
 ·simp [q,r42_Group_eq]
 ·simp only [beq_iff_eq,q,if_false]
  rw [hw w.Letter h1 (by omega),hw _ (by omega) (by omega)]
theorem r42_whole_eq (w : ApiWord) : r42_whole w = some (wholeW w) := by
 unfold r42_whole wholeW
 by_cases q : w.Letter = 70
 ·simp [q]
 ·by_cases q2 : w.Letter = 84
  ·simp [q2]
  ·by_cases q3 : w.Letter = 72 <;> simp [q,q2,q3]
def anyUp (p : Nat → Bool) : Nat → Nat → Bool
 | _,0=>false
 | k,m + 1=>p k || anyUp p (k + 1) m
theorem anyUp_iff (p : Nat → Bool) : ∀ (m k : Nat),anyUp p k m = true ↔ ∃ j,k ≤ j ∧ j < k + m ∧ p j = true
 | 0,k=>by simp [anyUp]; intro j h1 h2; omega
 | m + 1,k=>by
  simp only [anyUp,Bool.or_eq_true,anyUp_iff p m (k + 1)]
  constructor
  ·rintro (h | ⟨j,h1,h2,h3⟩)
   ·exact ⟨k,by omega,by omega,h⟩
   ·exact ⟨j,by omega,by omega,h3⟩
  ·rintro ⟨j,h1,h2,h3⟩
   rcases Nat.eq_or_lt_of_le h1 with e | e
   ·subst e; exact .inl h3
   ·exact .inr ⟨j,by omega,by omega,h3⟩
theorem loopX_up {ε : Type} {f : Int → Option (Ex ε Int)} {n : Nat} (p : Nat → Bool) (eb ee : ε) (hf : ∀ k : Nat,k < n → f (k : Int) = if p k = true then some (.ret eb) else some (.go ((k : Int) + 1))) (he : f (n : Int) = some (.ret ee)) :
  ∀ (fu k : Nat),k ≤ n → n - k < fu → loopX f fu (k : Int) = some (if anyUp p k (n - k) = true then eb else ee)
 | 0,k,_,h=>by omega
 | fu + 1,k,hk,h=>by
  rcases Nat.eq_or_lt_of_le hk with e | e
  ·subst e
   simp only [loopX,he,Nat.sub_self,anyUp,Bool.false_eq_true,if_false]
  ·rw [show n - k = (n - (k + 1)) + 1 by omega]
   simp only [loopX,hf k e,anyUp]
   by_cases hp : p k = true
   ·simp [hp]
   ·have hp' : p k = false := by simpa using hp
    have := loopX_up p eb ee hf he fu (k + 1) e (by omega)
    simp only [hp',Bool.false_eq_true,if_false,Bool.false_or]
    exact this
theorem goodW_congr : ∀ (l : List ApiWord) (s t : List Int),(∀ c,s.contains c = t.contains c) → goodW s l = goodW t l
 | [],_,_,_=>rfl
 | w :: l,s,t,h=>by
  simp only [goodW,h (clsW w)]
  rw [goodW_congr l (clsW w :: s) (clsW w :: t) fun c=>by simp only [List.contains_cons,h c]]
theorem r42_Check_eq (b : ApiBlock) (hu : ∀ w ∈ b.Words,u8W w) (hl : b.Words.length ≤ 9223372036854775806) : r42_Check b = some (if goodW [] b.Words = true then 0 else 1) := by
  have key : ∀ (f : Nat → ApiWord → Unit → Option (Ex (Ex Int Unit) Unit)), (∀ (i : Nat) w, b.Words[i]? = some w → f i w () = if (clsW w != 0 && wholeW w && !(anyUp (fun k => match b.Words[k]? with | some x => clsW x == clsW w | none => false) 0 i)) = true then some (.go ()) else some (.ret (.ret 1))) →
      ∀ (l : List ApiWord) (i : Nat),b.Words.drop i = l → i ≤ b.Words.length → rangeX f (fun (_ : Unit)=>some (.go ())) l i () = some (if goodW ((b.Words.take i).map clsW) l = true then .go () else .ret 1) := by
    intro f hf l
    induction l with
    | nil=>intro i _ _; rfl
    | cons w l ih =>
      intro i hd hi
      have hx : b.Words[i]? = some w := by
        have : (b.Words.drop i)[0]? = some w := by rw [hd]; rfl
        simpa using this
      have hlt := getElem_lt hx
      have hrest : b.Words.drop (i + 1) = l := by rw [← List.drop_drop,hd]; rfl
      have hany : anyUp (fun k=>match b.Words[k]? with | some x=>clsW x == clsW w | none=>false) 0 i = ((b.Words.take i).map clsW).contains (clsW w) := by
        rw [Bool.eq_iff_iff,anyUp_iff,List.contains_iff_mem,List.mem_map]
        constructor
        · rintro ⟨j,_,h2,h3⟩
          cases hq : b.Words[j]? with
          | none=>rw [hq] at h3; simp at h3
          | some x =>
            rw [hq] at h3
            exact ⟨x,List.mem_iff_getElem?.2 ⟨j,by rw [List.getElem?_take,if_pos (by omega)]; exact hq⟩,by simpa using h3⟩
        · rintro ⟨x,h1,h2⟩
          obtain ⟨j,hj⟩ := List.mem_iff_getElem?.1 h1
          have hji : j < i := by have := getElem_lt hj; simp at this; omega
          rw [List.getElem?_take,if_pos hji] at hj
          exact ⟨j,by omega,by omega,by rw [hj]; simpa using h2⟩
      have ht : b.Words.take (i + 1) = b.Words.take i ++ [w] := by rw [List.take_add_one,hx]; rfl
      have hgo : goodW ((b.Words.take i).map clsW) (w :: l) = ((clsW w != 0 && wholeW w && !((b.Words.take i).map clsW).contains (clsW w)) && goodW ((b.Words.take (i + 1)).map clsW) l) := by
        rw [ht]
        simp only [goodW]
        congr 1
        refine goodW_congr l _ _ fun c=>?_
        simp only [List.map_append,List.map_cons,List.map_nil]
        rw [Bool.eq_iff_iff]
        simp [or_comm]
      simp only [rangeX,hf i w hx,hany,hgo]
      cases (clsW w != 0 && wholeW w && !((b.Words.take i).map clsW).contains (clsW w)) with
      | false=>simp
      | true =>
        simp only [if_true,Bool.true_and]
        exact ih (i + 1) hrest hlt
  unfold r42_Check
  rw [okIdx_of (by omega),guardO_t,key _ ?_ b.Words 0 rfl (by omega)]
  · simp only [List.take_zero,List.map_nil]
    cases goodW [] b.Words <;> rfl
  · intro i w hw
    have hlt := getElem_lt hw
    rw [r42_class_eq w (hu w (List.mem_of_getElem? hw))]
    simp only [bindO_s]
    cases h0 : (clsW w == 0) with
    | true=>simp [h0,bne]
    | false =>
      simp only [Bool.false_eq_true,if_false,r42_whole_eq,bindO_s,bne,h0,Bool.not_false,Bool.true_and]
      cases hq : wholeW w with
      | false=>simp
      | true =>
        simp only [Bool.not_true,Bool.false_eq_true,if_false,Bool.true_and]
        have hlp := loopX_up (ε := Ex (Ex (Ex Int Unit) Unit) Unit) (f := fun (v397 : Int) =>
                if (decide (v397 < (i : Int))) = true then
                  bindO (gt b.Words v397) fun (e400 : ApiWord) =>
                  bindO (r42_class e400) fun (y401 : Int) =>
                  if (y401 == clsW w) = true then
                    some (.ret (.ret (.ret (.ret 1))))
                  else
                    some (.go (IntKind.i64.wrap (v397 + 1)))
                else
                  some (.ret (.go ()))) (n := i) (fun k=>match b.Words[k]? with | some x=>clsW x == clsW w | none=>false) (.ret (.ret (.ret (1 : Int)))) (.go ()) ?_ (by simp) fuel 0 (by omega) (fuel_gt (by omega))
        · have hlp' := hlp
          simp only [Int.natCast_zero,Nat.sub_zero] at hlp'
          rw [show ((0 : Nat) : Int) = 0 from rfl] at hlp
          simp only [Nat.sub_zero] at hlp
          rw [hlp]
          cases anyUp (fun k=>match b.Words[k]? with | some x=>clsW x == clsW w | none=>false) 0 i <;> simp
        · intro k hk
          obtain ⟨x,hx⟩ : ∃ x,b.Words[k]? = some x := ⟨_,List.getElem?_eq_getElem (by omega)⟩
          have : decide ((k : Int) < (i : Int)) = true := by simp; omega
          simp only [this,if_true,gt_k hx,bindO_s,r42_class_eq x (hu x (List.mem_of_getElem? hx)),hx]
          rw [wrap_i64 (by omega) (by omega)]
theorem r42_Apply_eq (s : ModalState) (b : ApiBlock) (h : okB b) : r42_Apply (backS s) b = some (if goodW [] b.Words = true then (backS (b.Words.foldl putW s),0) else (backS zS,1)) := by
 unfold r42_Apply
 rw [r42_Check_eq b h.1 h.2,bindO_s]
 cases hg : goodW [] b.Words with
 | false=>simp [zS,backS]
 | true =>
  simp only [if_true]
  have key : ∀ (f : Nat → ApiWord → R42State → Option (Ex R42State R42State)) (l : List ApiWord) (i : Nat) (s : ModalState),(∀ i w s,w ∈ l → f i w (backS s) = some (.go (backS (putW s w)))) → rangeX f (fun v=>some v) l i (backS s) = some (backS (l.foldl putW s)) := by
   intro f l
   induction l with
   | nil=>intro i s _; rfl
   | cons x l ih =>
    intro i s hf
    simp only [rangeX,hf i x s (by simp),List.foldl_cons]
    exact ih (i + 1) (putW s x) fun i w s hw=>hf i w s (by simp [hw])
  rw [okIdx_of (by have := h.2; omega),guardO_t,key _ b.Words 0 s ?_]
  ·simp
  ·intro i x v hx
   rw [r42_one_eq v x (cls_put (goodW_ne _ _ hg x hx)),bindO_s]
end Go.Proofs.YtopjpenbieojmaaGreatDoor
namespace Go.Proofs.YtopjpenbieojmaaGreatDoor
open Go.RowKit
set_option linter.unusedVariables false
set_option linter.unusedSimpArgs false
def r44c (c : CycleCycle) : R44Cycle := R44Cycle.mk c.Code c.R c.Z c.Q c.Rate c.Initial c.High
theorem r44_in_eq (n : Int) : r44_in n = some (decide (-10000000 ≤ n ∧ n ≤ 10000000)) := by
 unfold r44_in
 congr 1
 rw [Bool.eq_iff_iff]
 simp
theorem r44_Valid_eq (c : CycleCycle) : r44_Valid (r44c c) = some (cycV c) := by
 obtain ⟨code,R,Z,Q,rate,ini,high⟩ := c
 apply Tot.get
 unfold r44_Valid cycV r44c
 dsimp only
 refine Tot.ite (fun q=>.ok ?_) (fun q=>?_)
 ·rw [if_pos]
  by_cases b : code = 81000
  ·subst b; simp at q; omega
  ·rw [if_pos (by simpa using b)] at q
   by_cases d : code = 82000
   ·subst d; simp at q; omega
   ·rw [if_pos (by simpa using d)] at q
    simp at q; omega
 ·have hb : ¬ (¬ (code = 83000 ∨ code = 81000 ∨ code = 82000) ∨ Z ≥ R ∨ R > ini ∨ rate < 1 ∨ rate > 1000000000000 ∨ (code = 83000 ∧ Q ≤ 0)) := by
   by_cases b : code = 81000
   ·subst b; simp at q; omega
   ·rw [if_pos (by simpa using b)] at q
    by_cases d : code = 82000
    ·subst d; simp at q; omega
    ·rw [if_pos (by simpa using d)] at q
     simp at q; omega
  rw [if_neg hb]
  refine Tot.bind (E := fun v=>v = decide ((R > 10000000 ∨ R < -10000000) ∨ (Z > 10000000 ∨ Z < -10000000) ∨ (ini > 10000000 ∨ ini < -10000000) ∨ (code = 83000 ∧ (Q > 10000000 ∨ Q < -10000000)))) ?_ (fun v hv=>?_)
  ·simp only [r44_in_eq,bindO_s]
   refine Tot.ite (fun q1=>Tot.ite (fun q2=>Tot.ite (fun q3=>Tot.ite (fun q4=>.ok ?_) (fun q4=>.ok ?_)) (fun q3=>.ok ?_)) (fun q2=>.ok ?_)) (fun q1=>.ok ?_)
   ·simp at q1 q2 q3 q4
    by_cases z : -10000000 ≤ Q ∧ Q ≤ 10000000
    ·rw [decide_eq_true z,decide_eq_false (by omega)]; rfl
    ·rw [decide_eq_false z,decide_eq_true (by omega)]; rfl
   ·simp at q1 q2 q3 q4
    rw [decide_eq_false (by omega)]
   ·have q3' := of_decide_eq_false q3
    rw [decide_eq_true (by omega)]
   ·have q2' := of_decide_eq_false q2
    rw [decide_eq_true (by omega)]
   ·have q1' := of_decide_eq_false q1
    rw [decide_eq_true (by omega)]
  ·by_cases z : (R > 10000000 ∨ R < -10000000) ∨ (Z > 10000000 ∨ Z < -10000000) ∨ (ini > 10000000 ∨ ini < -10000000) ∨ (code = 83000 ∧ (Q > 10000000 ∨ Q < -10000000))
   ·rw [decide_eq_true z] at hv
    subst hv
    rw [if_pos rfl,if_pos z]
    exact .ok rfl
   ·rw [decide_eq_false z] at hv
    subst hv
    rw [if_neg (by simp),if_neg z]
    refine Tot.bindX (E := fun _=>¬ (code = 83000 ∧ (R - Z - 1) / Q > 999)) (TotX.of (Tot.ite (fun q=>?_) (fun q=>.ok ?_))) (fun _ h=>by rw [if_neg h]; exact .ok rfl)
    ·have a : code = 83000 := by simpa using q
     subst a
     have q0 : 0 < Q := by omega
     rw [wrap_i64 (n := R - Q) (by omega) (by omega)]
     refine Tot.loop (fun m (v : Int × Int)=>∃ k : Nat,v = ((k : Int),R - ((k : Int) + 1) * Q) ∧ k ≤ 999 ∧ m = 999 - k) _ 999 (by unfold fuel; omega) ⟨0,by simp,Nat.zero_le _,rfl⟩ (fun m v hr=>?_)
     obtain ⟨k,rfl,k1,k2⟩ := hr
     have hi := dep_iff (R := R) (Z := Z) q0 k
     have hb1 := mul_bd (k := (k : Int) + 1) (by omega) (by omega) q0 (by omega)
     have he : ((k : Int) + 2) * Q = ((k : Int) + 1) * Q + Q := by
      rw [show (k : Int) + 2 = ((k : Int) + 1) + 1 by omega,Int.add_mul]; omega
     dsimp only
     by_cases y : R - ((k : Int) + 1) * Q > Z
     ·have y2 := hi.1 y
      rw [decide_eq_true y,if_pos rfl,wrap_i64 (n := (k : Int) + 1) (by omega) (by omega)]
      by_cases x : (k : Int) + 1 > 999
      ·rw [decide_eq_true x,if_pos rfl]
       refine .ret ?_
       show (3 : Int) = _
       rw [if_pos ⟨rfl,by omega⟩]
      ·rw [decide_eq_false x,if_neg (by simp),wrap_i64 (n := R - ((k : Int) + 1) * Q - Q) (by omega) (by omega)]
       refine .go ⟨999 - (k + 1),by omega,k + 1,?_,by omega,rfl⟩
       have e : R - ((k : Int) + 1) * Q - Q = R - (((k + 1 : Nat) : Int) + 1) * Q := by
        rw [show ((k + 1 : Nat) : Int) + 1 = (k : Int) + 2 by omega,he]; omega
       rw [e]; rfl
     ·have y2 : ¬ ((k : Int) + 1 ≤ (R - Z - 1) / Q) := fun w=>y (hi.2 w)
      rw [decide_eq_false y,if_neg (by simp)]
      refine .ret ?_
      show ¬ _
      rintro ⟨_,w⟩
      omega
    ·have a : code ≠ 83000 := by simpa using q
     exact fun w=>a w.1
theorem r44_Depths_eq (c : CycleCycle) : r44_Depths (r44c c) = some (if cycV c = 0 then (depL c,0) else ([],cycV c)) := by
 have h := cy_Depths_eq c
 unfold cy_Depths at h
 unfold r44_Depths
 rw [r44_Valid_eq]
 rw [cy_Valid_eq] at h
 exact h
def pth (s : ApiPos × List ApiMove) : R44Path := R44Path.mk s.1 s.2
theorem ref_go {v : R44Path} {q : ApiPos} {k r : Int} (hk : k = if r > 0 then 2 else 1) (hl : v.Moves.length ≤ 10000000) : (if ((v.At.X == q.X) && ((v.At.Y == q.Y) && (v.At.Z == q.Z))) = true then some v else guardO (okLen (v.Moves.length + 1)) (some (R44Path.mk q (v.Moves ++ [ApiMove.mk k q (ApiGrid2.mk 0 0) r])))) = some (pth (goM (v.At,v.Moves) q r)) := by
 unfold goM pth
 rw [okLen_of (by omega),guardO_t]
 by_cases h : q = v.At
 ·subst h; simp
 ·rw [if_neg (show ¬ q = (v.At,v.Moves).1 from h),if_neg,hk]
  rw [pos_ext] at h
  simp; omega
theorem mmI_max (a b : Int) : mmI true a b = if a < b then b else a := by
 unfold mmI
 simp
theorem r44_Expand_one (c : CycleCycle) (p : ApiPos) (g : ApiGrid2) : r44_Expand (r44c c) p [g] = some (expV c p g) := by
 unfold r44_Expand expV
 rw [r44_Valid_eq,bindO_s]
 by_cases h : cycV c = 0
 ·rw [if_pos h,if_neg (by rw [h]; simp)]
  have ok := cycV_ok h
  have hdl := depL_len ok
  apply Tot.get
  simp only [r44_in_eq,bindO_s]
  refine Tot.bind (E := fun v=>v = decide (¬ ((p.X > 10000000 ∨ p.X < -10000000) ∨ (p.Y > 10000000 ∨ p.Y < -10000000) ∨ (p.Z > 10000000 ∨ p.Z < -10000000)))) (Tot.ite (fun q1=>Tot.ite (fun q2=>.ok ?_) (fun q2=>.ok ?_)) (fun q1=>.ok ?_)) (fun v hv=>?_)
  ·simp at q1 q2
   by_cases z : -10000000 ≤ p.Z ∧ p.Z ≤ 10000000
   ·rw [decide_eq_true z,decide_eq_true (by omega)]
   ·rw [decide_eq_false z,decide_eq_false (by omega)]
  ·have q2' := of_decide_eq_false q2
   rw [decide_eq_false (by omega)]
  ·have q1' := of_decide_eq_false q1
   rw [decide_eq_false (by omega)]
  ·refine Tot.bind (E := fun u=>u = decide (¬ far3 p g)) (Tot.guard rfl (Tot.range (fun i v=>v = if i = 0 then decide (¬ ((p.X > 10000000 ∨ p.X < -10000000) ∨ (p.Y > 10000000 ∨ p.Y < -10000000) ∨ (p.Z > 10000000 ∨ p.Z < -10000000))) else decide (¬ far3 p g)) _ hv (fun i x v hx hv=>?_) (fun v hv=>.ok (by rw [hv]; simp)))) (fun u hu=>?_)
   ·have hi : i = 0 := by have := getElem_lt hx; simpa using this
    subst hi
    injection hx with hx
    subst hx
    rw [if_pos rfl] at hv
    rw [if_neg (show ¬ (0 + 1 = 0) by omega)]
    refine TotX.bind (E := fun v=>v = decide (¬ far3 p g)) (Tot.ite (fun q0=>Tot.ite (fun q1=>.ok ?_) (fun q1=>.ok ?_)) (fun q0=>.ok ?_)) (fun v hv=>.go hv)
    ·rw [q0] at hv
     have q0' := of_decide_eq_true hv.symm
     simp at q1
     by_cases z : -10000000 ≤ g.Y ∧ g.Y ≤ 10000000
     ·rw [decide_eq_true z,decide_eq_true (by unfold far3; omega)]
     ·rw [decide_eq_false z,decide_eq_false (by unfold far3; omega)]
    ·have q1' := of_decide_eq_false q1
     rw [decide_eq_false (by unfold far3; omega)]
    ·rw [q0] at hv
     have q0' := of_decide_eq_false hv.symm
     rw [decide_eq_false (by unfold far3; omega)]
   ·subst hu
    by_cases z : far3 p g
    ·rw [decide_eq_false (by simpa using z),if_pos (show (!false) = true from rfl),if_pos z]; exact .ok rfl
    ·rw [decide_eq_true z,if_neg (by simp),if_neg z]
     obtain ⟨m0,hm0⟩ : ∃ m0,goM (p,[]) (ApiPos.mk p.X p.Y (if p.Z < c.R then c.R else p.Z)) 0 = m0 := ⟨_,rfl⟩
     obtain ⟨m1,hm1⟩ : ∃ m1,goM m0 (ApiPos.mk g.X g.Y m0.1.Z) 0 = m1 := ⟨_,rfl⟩
     obtain ⟨m2,hm2⟩ : ∃ m2,goM m1 (ApiPos.mk g.X g.Y c.R) 0 = m2 := ⟨_,rfl⟩
     obtain ⟨m3,hm3⟩ : ∃ m3,(depL c).foldl (fun s z=>goM (goM s (ApiPos.mk g.X g.Y z) c.Rate) (ApiPos.mk g.X g.Y c.R) 0) m2 = m3 := ⟨_,rfl⟩
     have hcyc : cycM c p g = if c.High = true then goM m3 (ApiPos.mk g.X g.Y c.Initial) 0 else m3 := by
      unfold cycM
      dsimp only
      rw [hm0,hm1,hm2,hm3]
     have hlenM := cycM_len ok p g
     have l0 : m0.2.length ≤ 1 := by rw [← hm0]; exact goM_len _ _ _
     have l1 : m1.2.length ≤ 2 := by have := goM_len m0 (ApiPos.mk g.X g.Y m0.1.Z) 0; rw [hm1] at this; omega
     have l2 : m2.2.length ≤ 3 := by have := goM_len m1 (ApiPos.mk g.X g.Y c.R) 0; rw [hm2] at this; omega
     have l3 : m3.2.length ≤ 2003 := by have := fold_len c g (depL c) m2; rw [hm3] at this; omega
     have p1 : m1.1 = ApiPos.mk g.X g.Y m0.1.Z := by rw [← hm1]; exact goM_pos _ _ _
     have p2 : m2.1 = ApiPos.mk g.X g.Y c.R := by rw [← hm2]; exact goM_pos _ _ _
     have p3 := fold_pos c g (depL c) m2 (by rw [p2]) (by rw [p2])
     rw [hm3] at p3
     have hrate : c.Rate > 0 := by have := ok.rate; omega
     refine Tot.bindX (E := fun s=>s = pth (cycM c p g)) (TotX.of (Tot.guard rfl (Tot.range (fun i v=>v = if i = 0 then R44Path.mk p [] else pth (cycM c p g)) _ rfl (fun i x v hx hv=>?_) (fun v hv=>.ok (by rw [hv]; simp))))) (fun s hs=>.ok (by rw [hs]; rfl))
     have hi : i = 0 := by have := getElem_lt hx; simpa using this
     subst hi
     injection hx with hx
     subst hx
     rw [if_pos rfl] at hv
     subst hv
     rw [if_neg (show ¬ (0 + 1 = 0) by omega)]
     have hdep : r44_Depths (R44Cycle.mk (r44c c).Code (r44c c).R (r44c c).Z (r44c c).Q (r44c c).Rate (r44c c).Initial (r44c c).High) = some (depL c,0) := by
      have := r44_Depths_eq c
      rw [if_pos h] at this
      exact this
     refine TotX.bind (E := fun v=>v = pth (cycM c p g)) ?_ (fun v hv=>?_)
     ·rw [hdep,bindO_s]
      have eR : (r44c c).R = c.R := rfl
      have eT : (r44c c).Rate = c.Rate := rfl
      have eH : (r44c c).High = c.High := rfl
      have eI : (r44c c).Initial = c.Initial := rfl
      rw [eR,eT,eH,eI]
      unfold r44_up
      simp only [bindO_s,mmI_max]
      have g0 := ref_go (v := R44Path.mk p []) (q := ApiPos.mk p.X p.Y (if p.Z < c.R then c.R else p.Z)) (k := 1) (r := 0) rfl (by simp)
      rw [show ((R44Path.mk p []).At,(R44Path.mk p []).Moves) = (p,[]) from rfl,hm0] at g0
      refine Tot.bind (E := fun v=>v = pth m0) (Tot.eq g0 rfl) (fun v hv=>?_)
      subst hv
      have g1 := ref_go (v := pth m0) (q := ApiPos.mk g.X g.Y m0.1.Z) (k := 1) (r := 0) rfl (by show m0.2.length ≤ _; omega)
      rw [show ((pth m0).At,(pth m0).Moves) = m0 from rfl,hm1] at g1
      refine Tot.bind (E := fun v=>v = pth m1) (Tot.eq g1 rfl) (fun v hv=>?_)
      subst hv
      have g2 := ref_go (v := pth m1) (q := ApiPos.mk g.X g.Y c.R) (k := 1) (r := 0) rfl (by show m1.2.length ≤ _; omega)
      rw [show ((pth m1).At,(pth m1).Moves) = m1 from rfl,hm2] at g2
      have eX : (pth m1).At.X = g.X := by show m1.1.X = _; rw [p1]
      have eY : (pth m1).At.Y = g.Y := by show m1.1.Y = _; rw [p1]
      rw [eX,eY]
      rw [eX,eY] at g2
      refine Tot.bind (E := fun v=>v = pth m2) (Tot.eq g2 rfl) (fun v hv=>?_)
      subst hv
      refine Tot.bind (E := fun v=>v = pth m3) (Tot.guard (okIdx_of (by show (depL c).length ≤ _; omega)) (Tot.range (fun i v=>∃ u : ApiPos × List ApiMove,v = pth u ∧ u = ((depL c).take i).foldl (fun s z=>goM (goM s (ApiPos.mk g.X g.Y z) c.Rate) (ApiPos.mk g.X g.Y c.R) 0) m2 ∧ u.2.length ≤ 3 + 2 * i ∧ u.1.X = g.X ∧ u.1.Y = g.Y) _ ⟨m2,rfl,rfl,by simpa using l2,by rw [p2],by rw [p2]⟩ (fun i z v hx hu=>?_) (fun v hu=>.ok ?_))) (fun v hv=>?_)
      ·obtain ⟨u,rfl,hu1,hu2,ux,uy⟩ := hu
       have hil := getElem_lt hx
       have fx : (pth u).At.X = g.X := ux
       have fy : (pth u).At.Y = g.Y := uy
       have hk2 : (if (decide (c.Rate > 0)) = true then some (2 : Int) else some 1) = some 2 := by rw [decide_eq_true hrate]; rfl
       have g3 := ref_go (v := pth u) (q := ApiPos.mk g.X g.Y z) (k := 2) (r := c.Rate) (by rw [if_pos hrate]) (by show u.2.length ≤ _; have : (depL c).length ≤ 1000 := hdl; omega)
       rw [show ((pth u).At,(pth u).Moves) = u from rfl] at g3
       have lu := goM_len u (ApiPos.mk g.X g.Y z) c.Rate
       have pu := goM_pos u (ApiPos.mk g.X g.Y z) c.Rate
       rw [hk2]
       simp only [bindO_s]
       rw [fx,fy]
       rw [fx,fy] at g3
       refine TotX.bind (E := fun w=>w = pth (goM u (ApiPos.mk g.X g.Y z) c.Rate)) (Tot.eq g3 rfl) (fun w hw=>?_)
       subst hw
       generalize hw : goM u (ApiPos.mk g.X g.Y z) c.Rate = w at *
       have wx : (pth w).At.X = g.X := by show w.1.X = _; rw [pu]
       have wy : (pth w).At.Y = g.Y := by show w.1.Y = _; rw [pu]
       have g4 := ref_go (v := pth w) (q := ApiPos.mk g.X g.Y c.R) (k := 1) (r := 0) rfl (by show w.2.length ≤ _; have : (depL c).length ≤ 1000 := hdl; omega)
       rw [show ((pth w).At,(pth w).Moves) = w from rfl] at g4
       rw [wx,wy]
       rw [wx,wy] at g4
       refine TotX.bind (E := fun x=>x = pth (goM w (ApiPos.mk g.X g.Y c.R) 0)) (Tot.eq g4 rfl) (fun x hx2=>.go ?_)
       subst hx2
       have lw := goM_len w (ApiPos.mk g.X g.Y c.R) 0
       refine ⟨_,rfl,?_,by omega,by rw [goM_pos],by rw [goM_pos]⟩
       rw [List.take_add_one,hx,List.foldl_append,← hu1,← hw]; rfl
      ·obtain ⟨u,rfl,hu1,_⟩ := hu
       rw [hu1]
       show pth (((depL c).take (depL c).length).foldl _ m2) = _
       rw [List.take_length,hm3]
      ·subst hv
       refine Tot.bind (E := fun v=>v = pth (cycM c p g)) (Tot.ite (fun q=>?_) (fun q=>.ok ?_)) (fun v hv=>.ok hv)
       ·have fx : (pth m3).At.X = g.X := p3.1
        have fy : (pth m3).At.Y = g.Y := p3.2
        have g5 := ref_go (v := pth m3) (q := ApiPos.mk g.X g.Y c.Initial) (k := 1) (r := 0) rfl (by show m3.2.length ≤ _; omega)
        rw [show ((pth m3).At,(pth m3).Moves) = m3 from rfl] at g5
        rw [fx,fy]
        rw [fx,fy] at g5
        refine Tot.bind (E := fun w=>w = pth (cycM c p g)) (Tot.eq g5 (by rw [hcyc,if_pos q])) (fun w hw=>.ok hw)
       ·rw [hcyc,if_neg (by rw [q]; simp)]
     ·subst hv
      refine TotX.ite (fun q=>?_) (fun _=>.go rfl)
      have : (pth (cycM c p g)).Moves.length = (cycM c p g).2.length := rfl
      simp at q; omega
 ·rw [if_neg h,if_pos (by simpa using h)]
theorem r44_Read_same (b : ApiBlock) (k f i : Int) (hi : Bool) (o : CycleCycle) (hl : b.Words.length ≤ 1000) {c : CycleCycle} (hc : c = CycleCycle.mk k (if (findW b 82).2 = true then (findW b 82).1 else o.R) (if (findW b 90).2 = true then (findW b 90).1 else o.Z) (if (findW b 81).2 = true then (findW b 81).1 else o.Q) (if (findW b 70).2 = true then (findW b 70).1 else f) i hi) : r44_Read b k f i hi (r44c o) = some (if cycV c = 0 then (r44c c,0) else (R44Cycle.mk 0 0 0 0 0 0 false,cycV c)) := by
 have hv : ∀ l d,r44_value b l d = some (if (findW b l).2 = true then (findW b l).1 else d) := by
  intro l d
  unfold r44_value
  rw [r41_Find_eq b l hl,bindO_s]
  split <;> rfl
 unfold r44_Read
 have hV := r44_Valid_eq c
 rw [hc] at hV ⊢
 rw [hv,hv,hv,hv,bindO_s,bindO_s,bindO_s,bindO_s]
 show bindO (r44_Valid (r44c (CycleCycle.mk k (if (findW b 82).2 = true then (findW b 82).1 else o.R) (if (findW b 90).2 = true then (findW b 90).1 else o.Z) (if (findW b 81).2 = true then (findW b 81).1 else o.Q) (if (findW b 70).2 = true then (findW b 70).1 else f) i hi))) _ = _
 rw [hV,bindO_s]
 generalize hcc : (CycleCycle.mk k (if (findW b 82).2 = true then (findW b 82).1 else o.R) (if (findW b 90).2 = true then (findW b 90).1 else o.Z) (if (findW b 81).2 = true then (findW b 81).1 else o.Q) (if (findW b 70).2 = true then (findW b 70).1 else f) i hi) = cc
 by_cases h : cycV cc = 0
 ·rw [if_pos h,h,← hcc]; rfl
 ·rw [if_neg h,if_pos (by simpa using h)]
end Go.Proofs.YtopjpenbieojmaaGreatDoor
namespace Go.Proofs.YtopjpenbieojmaaGreatDoor
open Go.RowKit
set_option linter.unusedVariables false
set_option linter.unusedSimpArgs false
theorem r33_Quarters_eq {p : ApiPos} {m : ApiMove} (h : ArcOk p m) (hp : okPos p) (hm : okMove m) (hv : movV p m = 0) : r33_Quarters p m = some ((qtr m.Kind (qd p m.Center) (qd m.To m.Center) : Int),0) := by
 unfold r33_Quarters r33_arc
 have hk : ((m.Kind == 3) || (m.Kind == 4)) = true := by simpa using h.kind
 rw [hk,bindO_s,if_neg (by simp),r33_Valid_eq hp hm,hv,bindO_s,if_neg (by simp),r33_quad_exact h.p1 h.p2 h.c1 h.c2 h.r0,bindO_s,r33_quad_exact h.t1 h.t2 h.c1 h.c2 (by rw [← h.r1]; exact h.r0),bindO_s]
 have ha := qd_le p m.Center
 have hb := qd_le m.To m.Center
 generalize qd p m.Center = a at *
 generalize qd m.To m.Center = b at *
 dsimp only
 have ha' : a = 0 ∨ a = 1 ∨ a = 2 ∨ a = 3 := by omega
 have hb' : b = 0 ∨ b = 1 ∨ b = 2 ∨ b = 3 := by omega
 rcases h.kind with k | k <;> rw [k] <;> rcases ha' with rfl | rfl | rfl | rfl <;> rcases hb' with rfl | rfl | rfl | rfl <;> decide
theorem tmod_nat (a b : Nat) : Int.tmod (a : Int) (b : Int) = ((a % b : Nat) : Int) := by
 rw [Int.tmod_eq_emod_of_nonneg (by omega)]; rfl
theorem tdiv_nat (a b : Nat) : Int.tdiv (a : Int) (b : Int) = ((a / b : Nat) : Int) := by
 rw [Int.tdiv_eq_ediv_of_nonneg (by omega)]; rfl
theorem r33_Arc_eq {p : ApiPos} {m : ApiMove} (h : ArcOk p m) (hp : okPos p) (hm : okMove m) (hv : movV p m = 0) : r33_Arc p m = some (arcL p m,0) := by
 apply Tot.get
 unfold r33_Arc
 have hQ : r33_Quarters p m = some ((arcQ p m : Int),0) := r33_Quarters_eq h hp hm hv
 obtain ⟨n0,n1,n2⟩ := h.n
 obtain ⟨q1,q2⟩ := h.q
 obtain ⟨al1,al2⟩ := h.all
 have hr := h.rad_le
 have hr0 := h.r0
 have hz1 := h.p3
 have hz2 := h.t3
 have hc1 := h.c1
 have hc2 := h.c2
 rw [hQ,bindO_s]
 refine Tot.ite (fun q=>by simp at q) (fun _=>?_)
 rw [r33_quad_exact h.p1 h.p2 h.c1 h.c2 h.r0,bindO_s]
 dsimp only
 rw [r33_Chords_eq hr0 hr,bindO_s,n0]
 have ecast : (arcQ p m : Int) * (arcN p m : Int) = ((arcN p m * arcQ p m : Nat) : Int) := by rw [Int.natCast_mul,Int.mul_comm]
 rw [ecast,wrap_i64 (n := ((arcN p m * arcQ p m : Nat) : Int)) (by omega) (by omega)]
 have hqd := qd_le p m.Center
 have hlen : (arcL p m).length = arcN p m * arcQ p m := by unfold arcL; simp
 refine Tot.bind (E := fun v=>v = arcL p m) (Tot.loop (fun k (v : List ApiPos × Int)=>∃ i : Nat,v = ((arcL p m).take i,(i : Int)) ∧ i ≤ arcN p m * arcQ p m ∧ k = arcN p m * arcQ p m - i) _ (arcN p m * arcQ p m) (by unfold fuel; omega) ⟨0,by simp,Nat.zero_le _,rfl⟩ (fun k v hr'=>?_)) (fun v hv'=>?_)
 ·obtain ⟨i,rfl,hi,hk⟩ := hr'
  dsimp only
  by_cases zi : i < arcN p m * arcQ p m
  ·have hdm : arcN p m * (i / arcN p m) + i % arcN p m = i := Nat.div_add_mod i (arcN p m)
   have zj : i % arcN p m < arcN p m := Nat.mod_lt _ (by omega)
   have zq : i / arcN p m < arcQ p m := Nat.div_lt_of_lt_mul zi
   obtain ⟨q,hq⟩ : ∃ q,i / arcN p m = q := ⟨_,rfl⟩
   obtain ⟨j,hj⟩ : ∃ j,i % arcN p m = j := ⟨_,rfl⟩
   have hpt := h.pt zq zj
   rw [hdm] at hpt
   obtain ⟨b1,b2,b3⟩ := hpt
   obtain ⟨z1,z2⟩ := h.zz b3
   rw [hq] at zq
   rw [hj] at zj
   obtain ⟨f1,f2,f3,f4,f5,f6,f7,f8,f9,f10,f11,f12,f13⟩ := chord_facts (R := rad p m.Center) (n := (arcN p m : Int)) (K := ((j + 1 : Nat) : Int)) hr0 hr (by omega) (by omega) (by omega)
   have hlt : ((arcL p m).take i).length = i := by rw [List.length_take,hlen]; omega
   have ej : ((j : Nat) : Int) + 1 = ((j + 1 : Nat) : Int) := rfl
   rw [decide_eq_true (show (i : Int) < ((arcN p m * arcQ p m : Nat) : Int) by omega),if_pos rfl,tmod_nat,tdiv_nat,hq,hj,wrap_i64 (n := ((j : Nat) : Int) + 1) (by omega) (by omega),ej,f1,f2,f3,f4,f5,f6,f7,f8,f9,f10,hlt]
   have hN0 : (!((arcN p m : Int) == 0)) = true := by simp; omega
   refine .guard hN0 (.guard (by simpa using f11) (.guard (by simpa using f11) (.guard hN0 ?_)))
   refine TotX.bind (E := fun v=>v = (if m.Kind = 3 then (-chordY (rad p m.Center) (arcN p m : Int) ((j + 1 : Nat) : Int),((qd p m.Center + 3 * q : Nat) : Int)) else (chordY (rad p m.Center) (arcN p m : Int) ((j + 1 : Nat) : Int),((qd p m.Center + q : Nat) : Int)))) (Tot.ite (fun k3=>.guard hN0 (.ok ?_)) (fun k3=>.ok ?_)) (fun v hv'=>?_)
   ·have k3' : m.Kind = 3 := by simpa using k3
    rw [if_pos k3',wrap_i64 (n := ((q : Nat) : Int)) (by omega) (by omega),wrap_i64 (n := 3 * ((q : Nat) : Int)) (by omega) (by omega),wrap_i64 (n := ((qd p m.Center : Nat) : Int) + 3 * ((q : Nat) : Int)) (by omega) (by omega),wrap_i64 (n := 0 - chordY _ _ _) (by omega) (by omega),Int.zero_sub]
    congr 1
   ·have k3' : ¬ m.Kind = 3 := by simpa using k3
    rw [if_neg k3',wrap_i64 (n := ((q : Nat) : Int)) (by omega) (by omega),wrap_i64 (n := ((qd p m.Center : Nat) : Int) + ((q : Nat) : Int)) (by omega) (by omega)]
    congr 1
   ·refine TotX.bind (E := fun xy=>xy = arcXYi p m i) ?_ (fun xy hxy=>?_)
    ·subst hv'
     unfold arcXYi
     rw [hq,hj]
     unfold arcXY
     by_cases k3 : m.Kind = 3
     ·rw [if_pos k3,if_pos k3]
      dsimp only
      rw [show Int.tmod ((qd p m.Center + 3 * q : Nat) : Int) 4 = (((qd p m.Center + 3 * q) % 4 : Nat) : Int) from tmod_nat _ 4,r33_turned_eq (by omega) (by omega) (by omega),rot_cw _ _ _ _ (by omega)]
      exact .ok rfl
     ·rw [if_neg k3,if_neg k3]
      dsimp only
      rw [show Int.tmod ((qd p m.Center + q : Nat) : Int) 4 = (((qd p m.Center + q) % 4 : Nat) : Int) from tmod_nat _ 4,r33_turned_eq (by omega) (by omega) (by omega),rot_mod]
      exact .ok rfl
    ·subst hxy
     have ei : ((i : Nat) : Int) + 1 = ((i + 1 : Nat) : Int) := rfl
     rw [wrap_i64 (n := m.To.Z - p.Z) (by omega) (by omega),wrap_i64 (n := ((i : Nat) : Int) + 1) (by omega) (by omega),ei,wrap_i64 (n := (m.To.Z - p.Z) * ((i + 1 : Nat) : Int)) (by omega) (by omega),r33_down_eq (by omega) (by omega),bindO_s]
     refine .guard (okLen_of (by omega)) (.go ⟨arcN p m * arcQ p m - (i + 1),by omega,i + 1,?_,by omega,rfl⟩)
     rw [wrap_i64 (n := m.Center.X + _) (by omega) (by omega),wrap_i64 (n := m.Center.Y + _) (by omega) (by omega),wrap_i64 (n := p.Z + _) (by omega) (by omega)]
     have ht := take_map_range (arcPt p m) (arcN p m * arcQ p m) i b3
     have e3 : (arcL p m).take (i + 1) = (arcL p m).take i ++ [arcPt p m i] := ht
     rw [e3]; rfl
  ·rw [decide_eq_false (show ¬ (i : Int) < ((arcN p m * arcQ p m : Nat) : Int) by omega),if_neg (by simp)]
   refine .ret ?_
   rw [show i = arcN p m * arcQ p m by omega,← hlen,List.take_length]
 ·subst hv'
  refine Tot.ite (fun q=>?_) (fun _=>.ok rfl)
  simp at q; omega
end Go.Proofs.YtopjpenbieojmaaGreatDoor
