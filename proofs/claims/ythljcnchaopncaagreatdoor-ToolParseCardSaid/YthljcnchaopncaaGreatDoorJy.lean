/-
  Jd, Je in one text.
-/
import Derived.Test.YthljcnchaopncaaGreatDoorJx
namespace Go.Proofs.YthljcnchaopncaaGreatDoor
open Go.RowKit
set_option linter.unusedVariables false
set_option linter.unusedSimpArgs false
def goodB (w p : List UInt8) (pt : Bool) : Bool := digB w && (!(decide (1 < w.length) && w.head? == some 48) && (!pt || (digB p && decide (p.length ≤ 30))))
def lz (l : List UInt8) : List UInt8 := l.dropWhile (· == 48)
def okD (neg : Bool) (w p : List UInt8) (pt : Bool) : Bool := goodB w p pt && (!neg || !(lz (w ++ p)).isEmpty)
theorem c48b (c : UInt8) : ((c.toNat : Int) == 48) = (c == 48) := by
 by_cases h : c = 48
 ·subst h; rfl
 ·have h2 : c.toNat ≠ 48 := fun z=>h (UInt8.toNat_inj.1 (by rw [z]; rfl))
  rw [beq_eq_false_iff_ne.2 h,beq_eq_false_iff_ne.2 (by omega)]
theorem dc_plain_eq (l : List UInt8) (hl : l.length ≤ 1000000) : dc_plain l = some (digB l) := by
 unfold dc_plain digB
 cases l with
 | nil=>rfl
 | cons c r =>
  have h1 : ((c :: r) == []) = false := rfl
  rw [h1]
  simp only [Bool.false_eq_true,if_false]
  unfold strings_Trim
  rw [show (([48,49,50,51,52,53,54,55,56,57] : List UInt8).all fun c=>decide (c.toNat < 128)) = true by decide,decide_eq_true (show (c :: r).length ≤ 9223372036854775807 by omega),decide_eq_true (show ([48,49,50,51,52,53,54,55,56,57] : List UInt8).length < 4294967281 by decide)]
  simp only [Bool.and_true,guardO_t,bindO_s]
  rw [trim_nil _ _ isD digs_contains]
  simp
theorem dc_digits_eq {s : List UInt8} {neg : Bool} {b w p : List UInt8} {pt : Bool} (hs : strip s = (neg,b)) (hc : cutV b = (w,p,pt)) (hl : s.length ≤ 65536) : dc_digits s = some (if goodB w p pt = true then (if lz (w ++ p) = [] then ([48],(p.length : Int),!neg) else ((if neg = true then [45] else []) ++ lz (w ++ p),(p.length : Int),true)) else ([],0,false)) := by
 have hbl : b.length ≤ s.length := by have := strip_len s; rw [hs] at this; exact this
 have hwp : w.length + p.length ≤ b.length := by
  have h1 := cutV_inv b
  rw [hc] at h1
  obtain ⟨h2,h3⟩ := h1
  dsimp only at h2 h3
  rw [h2]
  cases pt with
  | true=>simp <;> omega
  | false=>rw [h3 rfl]; simp
 unfold dc_digits
 rw [decide_eq_false (show ¬ (s.length : Int) > 65536 by omega),if_neg (by simp),cutPre s (by omega),hs,bindO_s]
 dsimp only
 rw [cutEq b (by omega),hc,bindO_s]
 dsimp only
 apply Tot.get
 refine Tot.bind (E := fun v=>v = !goodB w p pt) ?_ (fun v hv=>?_)
 ·rw [dc_plain_eq w (by omega),bindO_s,dc_plain_eq p (by omega),bindO_s]
  unfold goodB
  refine Tot.ite (fun q=>?_) (fun q=>.ok (by rw [q]; rfl))
  rw [q]
  have hP : Tot (if pt = true then (if digB p = true then some (decide ((p.length : Int) > 30)) else some true) else some false) (fun v=>v = !(!pt || (digB p && decide (p.length ≤ 30)))) := by
   cases pt with
   | false=>exact .ok rfl
   | true =>
    cases hd : digB p with
    | false=>exact .ok rfl
    | true =>
     refine .ok ?_
     simp only [Bool.not_true,Bool.false_or,Bool.true_and]
     by_cases z : p.length ≤ 30
     ·rw [decide_eq_true z,decide_eq_false (by omega)]; rfl
     ·rw [decide_eq_false z,decide_eq_true (by omega)]; rfl
  refine Tot.ite (fun q2=>?_) (fun q2=>?_)
  ·have hw : 1 < w.length := by simp at q2; omega
   rw [decide_eq_true hw]
   cases hww : w with
   | nil=>rw [hww] at hw; simp at hw
   | cons c r =>
    have e0 : gt (c :: r) 0 = some c := rfl
    rw [e0,bindO_s]
    refine Tot.ite (fun q3=>.ok ?_) (fun q3=>hP.mono (fun v hv=>?_))
    ·rw [c48b] at q3
     have : c = 48 := by simpa using q3
     subst this; rfl
    ·rw [c48b] at q3
     rw [hv]
     have : ((c :: r).head? == some 48) = false := by simpa using q3
     rw [this]; rfl
  ·have hw : ¬ 1 < w.length := by simp at q2; omega
   rw [decide_eq_false hw]
   exact hP.mono (fun v hv=>by rw [hv]; rfl)
 ·subst hv
  cases hg : goodB w p pt with
  | false=>exact .ok rfl
  | true =>
   refine Tot.ite (fun q=>by cases q) (fun _=>?_)
   rw [okStr_of (by omega),guardO_t]
   have ht : strings_TrimLeft (w ++ p) [48] = some (lz (w ++ p)) := by
    show guardO (decide ((48 : UInt8).toNat < 128) && decide ((w ++ p).length ≤ 9223372036854775807)) (some (Lib.trimLeftB (w ++ p) 48)) = _
    rw [decide_eq_true (show (48 : UInt8).toNat < 128 by decide),decide_eq_true (show (w ++ p).length ≤ 9223372036854775807 by simp; omega)]
    rfl
   rw [ht,bindO_s]
   refine Tot.ite (fun q=>?_) (fun q=>?_)
   ·have q' : lz (w ++ p) = [] := by simpa using q
    rw [if_pos rfl,if_pos q']
    exact .ok rfl
   ·have q' : lz (w ++ p) ≠ [] := by simpa using q
    rw [if_pos rfl,if_neg q']
    have hll := (tw_len (· == 48) (w ++ p)).2
    rw [List.length_append] at hll
    have hll' : (lz (w ++ p)).length ≤ w.length + p.length := hll
    cases neg with
    | true =>
     have : okStr [45] (lz (w ++ p)) = true := okStr_of (by simp; omega)
     rw [this]
     exact .ok rfl
    | false=>exact .ok rfl
theorem num_lz : ∀ (l : List UInt8),num (lz l) = num l
 | []=>rfl
 | c :: l=>by
  unfold lz
  rw [List.dropWhile_cons]
  split
  ·rename_i h
   have : c = 48 := by simpa using h
   subst this
   have := num_lz l
   unfold lz at this
   rw [this]
   show num l = numA 0 (48 :: l)
   rw [numA_cons]; rfl
  ·rfl
theorem lz_head (l : List UInt8) : (lz l).head? ≠ some 48 := by
 induction l with
 | nil=>simp [lz]
 | cons c l ih =>
  unfold lz at ih ⊢
  rw [List.dropWhile_cons]
  split
  ·exact ih
  ·rename_i h
   simpa using h
theorem lz_all {l : List UInt8} (h : l.all isD = true) : (lz l).all isD = true := by
 rw [List.all_eq_true] at h ⊢
 intro x hx
 exact h x ((List.dropWhile_sublist _).mem hx)
theorem digB_all {l : List UInt8} (h : digB l = true) : l.all isD = true ∧ l ≠ [] := by
 unfold digB at h
 rw [Bool.and_eq_true] at h
 exact ⟨h.1,fun z=>by rw [z] at h; simp at h⟩
theorem good_all {w p : List UInt8} {pt : Bool} (h : goodB w p pt = true) (hp : pt = false → p = []) : w.all isD = true ∧ w ≠ [] ∧ p.all isD = true ∧ (pt = true → p ≠ []) ∧ p.length ≤ 30 := by
 unfold goodB at h
 simp only [Bool.and_eq_true,Bool.or_eq_true,Bool.not_eq_true',decide_eq_true_eq] at h
 obtain ⟨h1,h2,h3⟩ := h
 obtain ⟨h4,h5⟩ := digB_all h1
 cases pt with
 | false=>rw [hp rfl]; exact ⟨h4,h5,rfl,(fun z=>by cases z),by simp⟩
 | true =>
  rcases h3 with z | ⟨z1,z2⟩
  ·cases z
  ·exact ⟨h4,h5,(digB_all z1).1,fun _=>(digB_all z1).2,z2⟩
theorem can_lz {neg : Bool} {w p : List UInt8} (h : (w ++ p).all isD = true) (hne : lz (w ++ p) ≠ []) : canI neg (lz (w ++ p)) := by
 refine ⟨⟨lz_all h,hne,fun _=>lz_head _⟩,fun _ z=>?_⟩
 have := num_pos (lz_all h) hne (lz_head _)
 have h2 := pow10_pos ((lz (w ++ p)).length - 1)
 omega
theorem canI_zero : canI false [48] := ⟨⟨rfl,by simp,fun h=>by simp at h⟩,fun h=>by cases h⟩
def signI (neg : Bool) (n : Nat) : Int := if neg = true then -(n : Int) else (n : Int)
theorem head45 {neg : Bool} {b : List UInt8} (h : b.all isD = true) (hne : b ≠ []) : strip ((if neg = true then [45] else []) ++ b) = (neg,b) := by
 apply strip_of
 cases b with
 | nil=>exact absurd rfl hne
 | cons c r =>
  have := List.all_eq_true.1 h c (by simp)
  have := (dig_ne this).2
  simpa using this
theorem Bd_num {l : List UInt8} (h : l.all isD = true) : Bd (l.length + 1) (num l : Int) := by
 unfold Bd
 have h1 := num_lt l h
 have h2 : 10 ^ l.length ≤ 10 ^ (9 * l.length) := Nat.pow_le_pow_right (by omega) (by omega)
 have h3 := pw_ten l.length
 have h4 := pw_pos l.length
 rw [pw_succ,Int.natAbs_natCast,h3]
 generalize 10 ^ l.length = A at *
 generalize 10 ^ (9 * l.length) = B at *
 omega
theorem Bd_sign {neg : Bool} {n m : Nat} (h : Bd m (n : Int)) : Bd m (signI neg n) := by
 cases neg with
 | true=>exact h.neg
 | false=>exact h
def ten (n : Nat) : Int := ((10 ^ n : Nat) : Int)
theorem ten_succ (n : Nat) : ten (n + 1) = ten n * 10 := by unfold ten; rw [Nat.pow_succ,Int.natCast_mul]; rfl
theorem ten_pos (n : Nat) : 0 < ten n := by unfold ten; have := pow10_pos n; omega
theorem Bd_ten (n : Nat) : Bd (n + 1) (ten n) := by
 unfold Bd ten
 have h2 : 10 ^ n ≤ 10 ^ (9 * n) := Nat.pow_le_pow_right (by omega) (by omega)
 have h3 := pw_ten n
 have h4 := pw_pos n
 rw [pw_succ,Int.natAbs_natCast,h3]
 generalize 10 ^ n = A at *
 generalize 10 ^ (9 * n) = B at *
 omega
theorem BQ_ten (n : Nat) : BQ (n + 1) ((ten n : Int) : Rat) := BQ.int (Bd_ten n) (by omega)
theorem r06_Power_eq {n : Nat} (hn : n ≤ 1000) : r06_Power (n : Int) = some (ofQ ((ten n : Int) : Rat)) := by
 apply Tot.get
 unfold r06_Power
 rw [r02_FromInt64_eq (by omega) (by omega),bindO_s]
 refine Tot.bind (E := fun v=>v = ofQ ((ten n : Int) : Rat)) (Tot.loop (fun m v=>∃ j : Nat,m + j = n ∧ v = ((j : Int),ofQ ((ten j : Int) : Rat))) _ n (fuel_gt (by omega)) ⟨0,by omega,rfl⟩ (fun m v hv=>?_)) (fun v hv=>.ok hv)
 obtain ⟨j,hj,rfl⟩ := hv
 dsimp only
 refine TotX.ite (fun q=>?_) (fun q=>.ret ?_)
 ·have q' : j < n := by simp at q; omega
  have h10 : BQ 3 ((10 : Int) : Rat) := BQ.int (Bd.i64 (by omega) (by omega)) (by omega)
  rw [r02_FromInt64_eq (by omega) (by omega),bindO_s,r02_Mul_eq (BQ_ten j) h10 (by omega),bindO_s,wI64 (by omega) (by omega),← Rat.intCast_mul,← ten_succ]
  exact .go ⟨m - 1,by omega,j + 1,by omega,rfl⟩
 ·have q' : ¬ j < n := by simp at q; omega
  rw [show j = n by omega]
def zeroR : ApiRat := ApiRat.mk (ApiInt.mk false []) (ApiInt.mk false [])
def decQ (neg : Bool) (w p : List UInt8) : Rat := Rat.divInt (signI neg (num (w ++ p))) (ten p.length)
end Go.Proofs.YthljcnchaopncaaGreatDoor
namespace Go.Proofs.YthljcnchaopncaaGreatDoor
open Go.RowKit
set_option linter.unusedVariables false
set_option linter.unusedSimpArgs false
theorem c46 (c : UInt8) : ((c.toNat : Int) == 46) = (c == 46) := by
 by_cases h : c = 46
 ·subst h; rfl
 ·have h2 : c.toNat ≠ 46 := fun z=>h (UInt8.toNat_inj.1 (by rw [z]; rfl))
  rw [beq_eq_false_iff_ne.2 h,beq_eq_false_iff_ne.2 (by omega)]
theorem c48n (c : UInt8) : ((c.toNat : Int) != 48) = (c != 48) := by
 show (!((c.toNat : Int) == 48)) = !(c == 48)
 rw [c48b]
def digs (w p : List UInt8) : Bool := w.all isD && p.all isD
def anyN (l : List UInt8) : Bool := l.any (· != 48)
theorem body_at {b w p : List UInt8} {pt : Bool} (hb : b = w ++ (if pt = true then 46 :: p else [])) (hd : digs w p = true) {i : Nat} {c : UInt8} (hc : b[i]? = some c) (hn : isD c = false) : i = w.length ∧ pt = true := by
 unfold digs at hd
 rw [Bool.and_eq_true] at hd
 rw [hb] at hc
 rcases Nat.lt_trichotomy i w.length with h | h | h
 ·rw [List.getElem?_append_left h] at hc
  have := List.all_eq_true.1 hd.1 c (List.mem_of_getElem? hc)
  rw [this] at hn; cases hn
 ·refine ⟨h,?_⟩
  cases pt with
  | true=>rfl
  | false =>
   rw [List.getElem?_append_right (by omega)] at hc
   simp at hc
 ·rw [List.getElem?_append_right (by omega)] at hc
  cases pt with
  | false=>simp at hc
  | true =>
   simp only [if_true] at hc
   obtain ⟨j,hj⟩ : ∃ j,i - w.length = j + 1 := ⟨i - w.length - 1,by omega⟩
   rw [hj,List.getElem?_cons_succ] at hc
   have := List.all_eq_true.1 hd.2 c (List.mem_of_getElem? hc)
   rw [this] at hn; cases hn
theorem digB_iff {l : List UInt8} : digB l = (l.all isD && !l.isEmpty) := rfl
theorem lz_any (l : List UInt8) : (!(lz l).isEmpty) = anyN l := by
 induction l with
 | nil=>rfl
 | cons c l ih =>
  unfold lz anyN at ih ⊢
  rw [List.dropWhile_cons,List.any_cons]
  by_cases h : c = 48
  ·subst h; simpa using ih
  ·have h1 : (c == 48) = false := beq_eq_false_iff_ne.2 h
   rw [h1]
   simp [h]
theorem take_snoc {b : List UInt8} {i : Nat} {c : UInt8} (h : b[i]? = some c) : b.take (i + 1) = b.take i ++ [c] := by rw [List.take_add_one,h]; rfl
theorem places_loop {b w p : List UInt8} {pt : Bool} (hc : cutV b = (w, p, pt)) (hl : b.length ≤ 1000000) : Tot (guardO (okIdx b) (
        rangeX (fun (i1 : Nat) (c2 : UInt8) (v3 : Int × Bool) =>
          bindX (if (((c2.toNat : Int) == 46) && (v3.1 == (b.length : Int))) = true then
                some (.go ((i1 : Int),v3.2))
              else
                if ((decide ((c2.toNat : Int) < 48)) || (decide ((c2.toNat : Int) > 57))) = true then
                  some (.ret (.ret (.ret (-1))))
                else
                  some (.go (v3.1,v3.2 || ((c2.toNat : Int) != 48)))) fun (v4 : Int × Bool) =>
          some (.go (v4.1,v4.2))) (fun (v3 : Int × Bool)=>some (.go (v3.1,v3.2))) b 0 ((b.length : Int),false))) (fun (x : Ex Int (Int × Bool))=>(x = .ret (-1) ∧ digs w p = false) ∨ (x = .go ((w.length : Int),anyN (w ++ p)) ∧ digs w p = true)) := by
  have hinv := cutV_inv b
  rw [hc] at hinv
  obtain ⟨hi1,hi2⟩ := hinv
  dsimp only at hi1 hi2
  refine Tot.guard (okIdx_of (by omega)) (Tot.range (fun i v=>(v.1 = (b.length : Int) ∧ (b.take i).all isD = true ∧ v.2 = anyN (b.take i)) ∨ (∃ k : Nat,v.1 = (k : Int) ∧ k < i ∧ i ≤ b.length ∧ b[k]? = some 46 ∧ (b.take k).all isD = true ∧ ((b.take i).drop (k + 1)).all isD = true ∧ v.2 = (anyN (b.take k) || anyN ((b.take i).drop (k + 1))))) _ (.inl ⟨rfl,by simp,by simp [anyN]⟩) (fun i c v hx hr=>?_) (fun v hr=>.ok ?_))
  · obtain ⟨v1,v2⟩ := v
    have hil := getElem_lt hx
    have hbad : isD c = false → (c ≠ 46 ∨ ∃ k : Nat,k < i ∧ b[k]? = some 46) → digs w p = false := by
      intro h1 h2
      cases hd : digs w p with
      | false=>rfl
      | true =>
        exfalso
        obtain ⟨e1,e2⟩ := body_at hi1 hd hx h1
        rcases h2 with h2 | ⟨k,hk,h2⟩
        · rw [hi1,e2,e1,List.getElem?_append_right (Nat.le_refl _),Nat.sub_self] at hx
          simp at hx
          exact h2 hx.symm
        · obtain ⟨e3,_⟩ := body_at hi1 hd h2 rfl
          omega
    rw [c46]
    refine TotX.bindX (E := fun u=>(u.1 = (b.length : Int) ∧ (b.take (i + 1)).all isD = true ∧ u.2 = anyN (b.take (i + 1))) ∨ (∃ k : Nat,u.1 = (k : Int) ∧ k < i + 1 ∧ i + 1 ≤ b.length ∧ b[k]? = some 46 ∧ (b.take k).all isD = true ∧ ((b.take (i + 1)).drop (k + 1)).all isD = true ∧ u.2 = (anyN (b.take k) || anyN ((b.take (i + 1)).drop (k + 1))))) (TotX.ite (fun q=>.go ?_) (fun q=>TotX.ite (fun q2=>.ret ?_) (fun q2=>.go ?_))) (fun u hu=>.go hu)
    · simp only [Bool.and_eq_true,beq_iff_eq] at q
      obtain ⟨rfl,q1⟩ := q
      rcases hr with ⟨r1,r2,r3⟩ | ⟨k,r1,r2,_⟩
      · refine .inr ⟨i,rfl,by omega,by omega,hx,r2,?_,?_⟩
        · rw [List.drop_of_length_le (by rw [List.length_take]; omega)]; rfl
        · dsimp only at r3 ⊢
          rw [List.drop_of_length_le (by rw [List.length_take]; omega),r3]
          simp [anyN]
      · dsimp only at r1 q1; omega
    · rw [notD] at q2
      have hnd : isD c = false := by simpa using q2
      left
      refine ⟨rfl,hbad hnd ?_⟩
      by_cases h46 : c = 46
      · right
        rcases hr with ⟨r1,_,_⟩ | ⟨k,r1,r2,_,r4,_⟩
        · exfalso
          dsimp only at r1
          rw [h46,r1] at q
          simp at q
        · exact ⟨k,r2,r4⟩
      · exact .inl h46
    · rw [notD] at q2
      have hd : isD c = true := by simpa using q2
      rw [c48n]
      rcases hr with ⟨r1,r2,r3⟩ | ⟨k,r1,r2,r2',r4,r5,r6,r7⟩
      · left
        refine ⟨r1,?_,?_⟩
        · rw [take_snoc hx,List.all_append,r2]; simp [hd]
        · dsimp only at r3 ⊢
          rw [take_snoc hx,r3]; simp [anyN]
      · right
        have hdr : (b.take (i + 1)).drop (k + 1) = (b.take i).drop (k + 1) ++ [c] := by
          rw [take_snoc hx,List.drop_append_of_le_length (by simp; omega)]
        refine ⟨k,r1,by omega,by omega,r4,r5,?_,?_⟩
        · rw [hdr,List.all_append,r6]; simp [hd]
        · dsimp only at r7 ⊢
          rw [hdr,r7]; simp [anyN,Bool.or_assoc]
  · obtain ⟨v1,v2⟩ := v
    rw [List.take_of_length_le (Nat.le_refl b.length)] at hr
    right
    rcases hr with ⟨r1,r2,r3⟩ | ⟨k,r1,r2,_,r4,r5,r6,r7⟩
    · have hcut := cutV_of b [] false r2 (fun _=>rfl)
      simp only [Bool.false_eq_true,if_false,List.append_nil] at hcut
      rw [hcut] at hc
      injection hc with e1 e2
      injection e2 with e2 e3
      subst e1 e2 e3
      dsimp only at r1 r3 ⊢
      rw [r1,r3,List.append_nil]
      exact ⟨rfl,by unfold digs; rw [r2]; rfl⟩
    · have hb : b = b.take k ++ (if true = true then 46 :: b.drop (k + 1) else []) := by
        have hkl := getElem_lt r4
        simp only [if_true]
        have h2 : b.drop k = 46 :: b.drop (k + 1) := by
          rw [List.drop_eq_getElem_cons hkl]
          rw [List.getElem?_eq_getElem hkl] at r4
          injection r4 with r4
          rw [r4]
        rw [← h2,List.take_append_drop]
      have hcut := cutV_of (b.take k) (b.drop (k + 1)) true r5 (fun z=>by cases z)
      rw [← hb,hc] at hcut
      injection hcut with e1 e2
      injection e2 with e2 e3
      have hkl := getElem_lt r4
      dsimp only at r1 r7 ⊢
      refine ⟨?_,?_⟩
      · rw [r1,r7,e1,e2,List.length_take,Nat.min_eq_left (by omega)]
        simp [anyN]
      · unfold digs; rw [e1,e2,r5,r6]; rfl
theorem cutV_len {b w p : List UInt8} {pt : Bool} (hc : cutV b = (w,p,pt)) : b.length = w.length + (if pt = true then p.length + 1 else 0) ∧ (pt = false → p = []) := by
 have hinv := cutV_inv b
 rw [hc] at hinv
 obtain ⟨hi1,hi2⟩ := hinv
 dsimp only at hi1 hi2
 refine ⟨?_,hi2⟩
 rw [hi1]
 cases pt with
 | true=>simp
 | false=>simp
theorem r06_Places_eq {s : List UInt8} {neg : Bool} {b w p : List UInt8} {pt : Bool} (hs : strip s = (neg,b)) (hc : cutV b = (w,p,pt)) (hl : s.length ≤ 65536) : r06_Places s = some (if okD neg w p pt = true then (p.length : Int) else -1) := by
  have hbl : b.length ≤ s.length := by have := strip_len s; rw [hs] at this; exact this
  obtain ⟨hbw,hpt⟩ := cutV_len hc
  have hsl : s.length = b.length + (if neg = true then 1 else 0) := by
    have := strip_inv s
    rw [hs] at this
    conv=>lhs; rw [this]
    cases neg <;> simp <;> omega
  apply Tot.get
  unfold r06_Places
  rw [decide_eq_false (show ¬ (s.length : Int) > 65536 by omega),if_neg (by simp)]
  obtain ⟨⟨u1,u2⟩,hu,he⟩ := strip_word (s := s) (by omega)
  rw [hs] at he
  injection he with e1 e2
  subst e1 e2
  cases hv1 : (if (decide ((s.length : Int) > 0)) = true then
        bindO (gt s 0) fun (c1 : UInt8) =>
        some ((c1.toNat : Int) == 45)
      else
        some false) with
  | none=>rw [hv1] at hu; cases hu
  | some v1 =>
    rw [hv1,bindO_s] at hu
    rw [bindO_s]
    cases hv2 : (if v1 = true then
        bindO (cutF s 1) fun (s1 : List UInt8) =>
        some s1
      else
        some s) with
    | none=>rw [hv2] at hu; cases hu
    | some v2 =>
      rw [hv2,bindO_s] at hu
      rw [bindO_s]
      injection hu with hu
      injection hu with hu1 hu2
      subst hu1 hu2
      clear hv1 hv2
      obtain ⟨x,hx,hpost⟩ := places_loop hc (by omega)
      rw [hx]
      rcases hpost with ⟨rfl,hd⟩ | ⟨rfl,hd⟩
      · rw [bindX_r]
        refine .ok ?_
        have : okD v1 w p pt = false := by
          cases ho : okD v1 w p pt with
          | false=>rfl
          | true =>
            unfold okD at ho
            rw [Bool.and_eq_true] at ho
            obtain ⟨g1,_,g3,_,_⟩ := good_all ho.1 hpt
            unfold digs at hd
            rw [g1,g3] at hd
            cases hd
        rw [this]; rfl
      · rw [bindX_g]
        dsimp only
        have hd' := hd
        unfold digs at hd'
        rw [Bool.and_eq_true] at hd'
        -- the conditions
        have hgood : goodB w p pt = (!w.isEmpty && (!(decide (1 < w.length) && w.head? == some 48) && (!pt || (!p.isEmpty && decide (p.length ≤ 30))))) := by
          unfold goodB
          rw [digB_iff,digB_iff,hd'.1,hd'.2]; simp
        have hneg : (decide ((s.length : Int) > (v2.length : Int))) = v1 := by
          cases v1 with
          | true=>exact decide_eq_true (by simp at hsl; omega)
          | false=>exact decide_eq_false (by simp at hsl; omega)
        rw [hneg]
        have hfin : Tot (if v1 = true then some (!anyN (w ++ p)) else some false) (fun v=>v = (v1 && !anyN (w ++ p))) := by
          cases v1 with
          | true=>exact .ok rfl
          | false=>exact .ok rfl
        refine Tot.bind (E := fun v=>v = (w.isEmpty || ((decide (1 < w.length) && w.head? == some 48) || (v1 && !anyN (w ++ p))))) (Tot.ite (fun q=>.ok ?_) (fun q=>Tot.ite (fun q2=>?_) (fun q2=>hfin.mono (fun v hv=>?_)))) (fun v hv=>?_)
        · have hw0 : w = [] := List.eq_nil_of_length_eq_zero (by simp at q; simpa using q)
          rw [hw0]; rfl
        · have hw1 : 1 < w.length := by simp at q2; omega
          have hv20 : ∃ r,v2.head? = w.head? ∧ gt v2 0 = some r ∧ w.head? = some r := by
            have hinv := (cutV_inv v2).1
            rw [hc] at hinv
            dsimp only at hinv
            cases hw : w with
            | nil=>rw [hw] at hw1; simp at hw1
            | cons c r =>
              rw [hw] at hinv
              rw [hinv]
              exact ⟨c,rfl,rfl,rfl⟩
          obtain ⟨r,h1,h2,h3⟩ := hv20
          have hwe : w.isEmpty = false := by
            cases hw : w with
            | nil=>rw [hw] at hw1; simp at hw1
            | cons c r=>rfl
          rw [h2,bindO_s,c48b,hwe,decide_eq_true hw1,h3]
          refine Tot.ite (fun q3=>.ok ?_) (fun q3=>hfin.mono (fun v hv=>?_))
          · have : r = 48 := by simpa using q3
            subst this; rfl
          · rw [hv]
            have : r ≠ 48 := by simpa using q3
            simp [this]
        · rw [hv]
          have hw1 : ¬ 1 < w.length := by simp at q2; omega
          have hwe : w.isEmpty = false := by
            cases hw : w with
            | nil=>rw [hw] at q; simp at q
            | cons c r=>rfl
          rw [hwe,decide_eq_false hw1]; rfl
        · subst hv
          have hok : okD v1 w p pt = (!(w.isEmpty || ((decide (1 < w.length) && w.head? == some 48) || (v1 && !anyN (w ++ p)))) && (!pt || (!p.isEmpty && decide (p.length ≤ 30)))) := by
            unfold okD
            rw [hgood,lz_any]
            generalize w.isEmpty = a1
            generalize (decide (1 < w.length) && w.head? == some 48) = a2
            generalize anyN (w ++ p) = a3
            generalize (!pt || (!p.isEmpty && decide (p.length ≤ 30))) = a4
            cases a1 <;> cases a2 <;> cases a3 <;> cases a4 <;> cases v1 <;> rfl
          rw [hok]
          generalize (w.isEmpty || ((decide (1 < w.length) && w.head? == some 48) || (v1 && !anyN (w ++ p)))) = bad
          cases bad with
          | true=>exact .ok rfl
          | false =>
            simp only [Bool.false_eq_true,if_false,Bool.not_false,Bool.true_and]
            cases pt with
            | false =>
              have hp0 := hpt rfl
              subst hp0
              have hbe : v2.length = w.length := by simpa using hbw
              rw [if_pos (by rw [hbe]; simp)]
              exact .ok rfl
            | true =>
              have hbe : v2.length = w.length + (p.length + 1) := by simpa using hbw
              rw [if_neg (by simp only [beq_iff_eq]; omega)]
              have hn : IntKind.i64.wrap ((IntKind.i64.wrap ((v2.length : Int) - (w.length : Int))) - 1) = (p.length : Int) := by
                rw [wI64 (n := (v2.length : Int) - (w.length : Int)) (by omega) (by omega),wI64 (by omega) (by omega)]; omega
              rw [hn]
              refine Tot.ite (fun q=>.ok ?_) (fun q=>.ok ?_)
              · simp only [Bool.or_eq_true,decide_eq_true_eq] at q
                have : (!p.isEmpty && decide (p.length ≤ 30)) = false := by
                  rcases q with z | z
                  · have : p = [] := List.eq_nil_of_length_eq_zero (by omega)
                    rw [this]; rfl
                  · rw [decide_eq_false (by omega),Bool.and_false]
                rw [this]; rfl
              · simp only [Bool.or_eq_false_iff,decide_eq_false_iff_not] at q
                have : (!p.isEmpty && decide (p.length ≤ 30)) = true := by
                  cases hp : p with
                  | nil=>rw [hp] at q; simp at q
                  | cons c r=>rw [← hp,decide_eq_true (by omega),hp]; rfl
                rw [this]; rfl
theorem r02_Over_eq {a b : Rat} {n m : Nat} (ha : BQ n a) (hb : BQ m b) (hn : n + m ≤ 90000) (h0 : b ≠ 0) : r02_Over (ofQ a) (ofQ b) = some (ofQ (a / b)) := by
 have hb0 : b.num ≠ 0 := fun z=>h0 (Rat.num_eq_zero.1 z)
 unfold r02_Over r02_Div
 show bindO (bindO (r01_Mul (ofI a.num) (ofI (b.den : Int))) (fun y1=>bindO (r01_Mul (ofI (a.den : Int)) (ofI b.num)) fun y2=>bindO (r02_Make y1 (ApiInt.mk y2.Neg y2.Limbs)) fun y3=>some (y3.1,y3.2))) _ = _
 rw [r01_Mul_eq ha.1 hb.2 (by omega) (by omega),bindO_s,r01_Mul_eq ha.2 hb.1 (by omega) (by omega),bindO_s]
 have hd : (a.den : Int) * b.num ≠ 0 := Int.mul_ne_zero (Int.ne_of_gt (den_pos a)) hb0
 show bindO (bindO (r02_Make (ofI (a.num * (b.den : Int))) (ofI ((a.den : Int) * b.num))) _) _ = _
 rw [r02_Make_eq (ha.1.mul hb.2) (ha.2.mul hb.1) (by omega) hd,bindO_s,bindO_s,div_divInt]
theorem filter_sign {neg : Bool} {w p : List UInt8} {pt : Bool} (hw : w.all isD = true) (hp : p.all isD = true) (hpt : pt = false → p = []) : ((if neg = true then [45] else []) ++ (w ++ (if pt = true then 46 :: p else []))).filter isD = w ++ p := by
 have h1 : w.filter isD = w := List.filter_eq_self.2 (List.all_eq_true.1 hw)
 have h2 : p.filter isD = p := List.filter_eq_self.2 (List.all_eq_true.1 hp)
 have h45 : isD 45 = false := rfl
 have h46 : isD 46 = false := rfl
 rw [List.filter_append,List.filter_append,h1]
 cases neg <;> cases pt
 ·simp [hpt rfl]
 ·simp [List.filter_cons,h46,h2]
 ·simp [hpt rfl,List.filter_cons,h45]
 ·simp [List.filter_cons,h45,h46,h2]
theorem lz_snoc (a : List UInt8) (c : UInt8) : lz (a ++ [c]) = if (lz a).isEmpty = true then (if c = 48 then [] else [c]) else lz a ++ [c] := by
 unfold lz
 rw [List.dropWhile_append]
 split
 ·rw [List.dropWhile_cons]
  by_cases h : c = 48
  ·subst h; rfl
  ·rw [if_neg (by simpa using h),if_neg h]
 ·rfl
theorem r06_Parse_eq {s : List UInt8} {neg : Bool} {b w p : List UInt8} {pt : Bool} (hs : strip s = (neg,b)) (hc : cutV b = (w,p,pt)) (hl : s.length ≤ 20000) : r06_Parse s = some (if okD neg w p pt = true then (ofQ (decQ neg w p),0) else (zeroR,2)) := by
 obtain ⟨hbw,hpt⟩ := cutV_len hc
 have hbl : b.length ≤ s.length := by have := strip_len s; rw [hs] at this; exact this
 have hwp : w.length + p.length ≤ b.length := by
  rw [hbw]
  cases pt with
  | true=>simp <;> omega
  | false=>rw [hpt rfl]; simp
 apply Tot.get
 unfold r06_Parse
 rw [r06_Places_eq hs hc (by omega),bindO_s]
 cases ho : okD neg w p pt with
 | false=>exact .ok rfl
 | true =>
  have ho' := ho
  unfold okD at ho'
  rw [Bool.and_eq_true] at ho'
  obtain ⟨hg,hz⟩ := ho'
  obtain ⟨g1,g2,g3,g4,g5⟩ := good_all hg hpt
  have hall : (w ++ p).all isD = true := by rw [List.all_append,g1,g3]; rfl
  have hbn : Bd ((w ++ p).length + 1) ((num (w ++ p) : Nat) : Int) := Bd_num hall
  rw [List.length_append] at hbn
  simp only [if_true]
  rw [decide_eq_false (show ¬ (p.length : Int) < 0 by omega),if_neg (by simp)]
  have hsf : s.filter isD = w ++ p := by
   have h1 := strip_inv s
   rw [hs] at h1
   have h2 := (cutV_inv b).1
   rw [hc] at h2
   dsimp only at h1 h2
   rw [h1,h2]
   exact filter_sign g1 g3 hpt
  refine Tot.bind (E := fun v=>v = lz (w ++ p)) (Tot.guard (okIdx_of (by omega)) (Tot.range (fun i v=>v = lz ((s.take i).filter isD)) _ rfl (fun i c v hx hr=>?_) (fun v hr=>.ok ?_))) (fun v hv=>?_)
  ·subst hr
   have hil := getElem_lt hx
   refine TotX.bind (E := fun u=>u = lz ((s.take (i + 1)).filter isD)) (Tot.ite (fun q=>?_) (fun q=>.ok ?_)) (fun u hu=>.go hu)
   ·have hcut : cutL s (i : Int) (IntKind.i64.wrap ((i : Int) + 1)) = some [c] := by
     rw [wI64 (by omega) (by omega)]
     unfold cutL
     rw [if_neg (by omega),Int.toNat_natCast,show ((i : Int) + 1).toNat - i = 1 by omega]
     have : s.drop i = c :: s.drop (i + 1) := by
      rw [List.drop_eq_getElem_cons hil]
      rw [List.getElem?_eq_getElem hil] at hx
      injection hx with hx
      rw [hx]
     rw [this]; rfl
    rw [hcut,bindO_s]
    have hlen : (lz ((s.take i).filter isD)).length ≤ s.length := by
     have h1 := (tw_len (· == 48) ((s.take i).filter isD)).2
     have h2 := List.length_filter_le isD (s.take i)
     have h3 : (s.take i).length ≤ s.length := by simp; omega
     unfold lz; omega
    refine Tot.guard (okStr_of (by simp; omega)) (.ok ?_)
    simp only [Bool.and_eq_true,Bool.or_eq_true,decide_eq_true_eq] at q
    obtain ⟨q1,q2,q3⟩ := q
    have hd : isD c = true := isD_iff.2 ⟨by omega,by omega⟩
    rw [take_snoc hx,List.filter_append]
    have : [c].filter isD = [c] := by simp [List.filter_cons,hd]
    rw [this,lz_snoc]
    by_cases he : lz ((s.take i).filter isD) = []
    ·rw [he] at q3 ⊢
     rw [c48n] at q3
     have h48 : c ≠ 48 := by simpa using q3
     simp [h48]
    ·have : (lz ((s.take i).filter isD)).isEmpty = false := by
      cases hq : lz ((s.take i).filter isD) with
      | nil=>exact absurd hq he
      | cons a r=>rfl
     rw [this]; simp
   ·rw [take_snoc hx,List.filter_append]
    by_cases hd : isD c = true
    ·have : [c].filter isD = [c] := by simp [List.filter_cons,hd]
     rw [this,lz_snoc]
     have hd1 := isD_iff.1 hd
     rw [decide_eq_true (show (c.toNat : Int) ≥ 48 by omega),decide_eq_true (show (c.toNat : Int) ≤ 57 by omega),c48n] at q
     simp only [Bool.true_and,Bool.or_eq_false_iff,Bool.not_eq_false',bne_eq_false_iff_eq,beq_iff_eq] at q
     rw [q.1,q.2]; rfl
    ·have : [c].filter isD = [] := by simp [List.filter_cons,hd]
     rw [this,List.append_nil]
  ·rw [hr,List.take_of_length_le (Nat.le_refl _),hsf]
  ·subst hv
   have hs0 : s ≠ [] := fun z=>by
    subst z
    have : b = [] := by have := hs; injection this with _ e; exact e.symm
    rw [this] at hbw
    cases hw : w with
    | nil=>exact g2 hw
    | cons c r=>rw [hw,List.length_cons,List.length_nil] at hbw; omega
   have hc0 : ∃ c,gt s 0 = some c ∧ (c == 45) = neg := by
    have h1 := strip_neg s
    rw [hs] at h1
    dsimp only at h1
    cases hss : s with
    | nil=>exact absurd hss hs0
    | cons c r =>
     refine ⟨c,rfl,?_⟩
     rw [h1,hss]
     by_cases z : c = 45
     ·subst z; rfl
     ·rw [beq_eq_false_iff_ne.2 z]; simp [z]
   obtain ⟨c,hc1,hc2⟩ := hc0
   have hll := (tw_len (· == 48) (w ++ p)).2
   rw [List.length_append] at hll
   have hll' : (lz (w ++ p)).length ≤ w.length + p.length := hll
   refine Tot.bind (E := fun v=>v.all isD = true ∧ canI neg v ∧ num v = num (w ++ p) ∧ v.length ≤ w.length + p.length + 1) (Tot.ite (fun q=>.ok ?_) (fun q=>.ok ?_)) (fun v hv=>?_)
   ·have q' : lz (w ++ p) = [] := by simpa using q
    have hn0 : num (w ++ p) = 0 := by rw [← num_lz,q']; rfl
    rw [q'] at hz
    have : neg = false := by simpa using hz
    subst this
    exact ⟨rfl,canI_zero,by rw [hn0]; rfl,by simp⟩
   ·have q' : lz (w ++ p) ≠ [] := by simpa using q
    exact ⟨lz_all hall,can_lz hall q',num_lz _,by omega⟩
   ·obtain ⟨v1,v2,v3,v4⟩ := hv
    have hvne : v ≠ [] := v2.1.2.1
    rw [hc1,bindO_s,c45,hc2]
    refine Tot.bind (E := fun u=>u = (if neg = true then [45] else []) ++ v) (Tot.ite (fun q=>?_) (fun q=>.ok (by rw [q]; rfl))) (fun u hu=>?_)
    ·rw [q]
     exact Tot.guard (okStr_of (by simp; omega)) (.ok rfl)
    ·subst hu
     have hB := Bd_sign (neg := neg) (n := num (w ++ p)) hbn
     rw [r01_Parse_eq (head45 v1 hvne) v2 (by cases neg <;> simp <;> omega),bindO_s]
     dsimp only
     rw [v3]
     show Tot (bindO (r02_FromInt (ofI (signI neg (num (w ++ p))))) _) _
     have ht : ((ten p.length : Int) : Rat) ≠ 0 := fun z=>by
      have := Rat.intCast_eq_zero_iff.1 z
      have := ten_pos p.length
      omega
     rw [r02_FromInt_eq,bindO_s,r06_Power_eq (by omega),bindO_s,r02_Over_eq (BQ.int hB (by omega)) (BQ_ten _) (by omega) ht,bindO_s]
     refine .ok ?_
     unfold decQ
     rw [Rat.divInt_eq_div]
end Go.Proofs.YthljcnchaopncaaGreatDoor
