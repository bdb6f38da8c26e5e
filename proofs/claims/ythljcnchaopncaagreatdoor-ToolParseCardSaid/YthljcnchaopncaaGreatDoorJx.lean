/-
  Ja, Jb, Jc in one text.
-/
import Derived.Test.YthljcnchaopncaaGreatDoorLbe
import Derived.Test.YthljcnchaopncaaGreatDoorIkl
import Derived.Test.YthljcnchaopncaaGreatDoorMT
import Derived.Lib.IndexLaws
namespace Go.Proofs.YthljcnchaopncaaGreatDoor
open Go.RowKit
set_option linter.unusedVariables false
set_option linter.unusedSimpArgs false
def isD (c : UInt8) : Bool := decide (48 ≤ c.toNat) && decide (c.toNat ≤ 57)
def dv (c : UInt8) : Nat := c.toNat - 48
def numA (a : Nat) (l : List UInt8) : Nat := l.foldl (fun a c=>10 * a + dv c) a
def num (l : List UInt8) : Nat := numA 0 l
theorem isD_iff {c : UInt8} : isD c = true ↔ 48 ≤ c.toNat ∧ c.toNat ≤ 57 := by simp [isD]
theorem numA_nil (a : Nat) : numA a [] = a := rfl
theorem numA_cons (a : Nat) (c : UInt8) (l : List UInt8) : numA a (c :: l) = numA (10 * a + dv c) l := by unfold numA; rw [List.foldl_cons]
theorem numA_append (a : Nat) (l m : List UInt8) : numA a (l ++ m) = numA (numA a l) m := by simp [numA,List.foldl_append]
theorem pow10_pos (n : Nat) : 1 ≤ 10 ^ n := Nat.pos_of_ne_zero (by simp)
theorem numA_eq (l : List UInt8) : ∀ a : Nat,numA a l = a * 10 ^ l.length + num l := by
 induction l with
 | nil=>intro a; simp [numA,num]
 | cons c l ih =>
  intro a
  show numA (10 * a + dv c) l = a * 10 ^ (l.length + 1) + numA (10 * 0 + dv c) l
  rw [ih (10 * a + dv c),ih (10 * 0 + dv c),Nat.pow_succ,Nat.add_mul,Nat.mul_zero,Nat.zero_add,← Nat.mul_assoc,Nat.mul_assoc 10 a]
  omega
theorem numA_ge (l : List UInt8) (a : Nat) : a ≤ numA a l := by
 rw [numA_eq]
 have := Nat.le_mul_of_pos_right a (pow10_pos l.length)
 omega
theorem num_snoc (l : List UInt8) (c : UInt8) : num (l ++ [c]) = 10 * num l + dv c := by
 unfold num; rw [numA_append]; rfl
theorem dv_lt {c : UInt8} (h : isD c = true) : dv c < 10 := by
 have := isD_iff.1 h
 unfold dv; omega
theorem num_lt : ∀ (l : List UInt8),l.all isD = true → num l < 10 ^ l.length
 | [],_=>by simp [num,numA]
 | c :: l,h=>by
  simp only [List.all_cons,Bool.and_eq_true] at h
  have h1 := num_lt l h.2
  have h2 := dv_lt h.1
  rw [show num (c :: l) = numA (10 * 0 + dv c) l from rfl,numA_eq,List.length_cons,Nat.pow_succ]
  have : (10 * 0 + dv c) * 10 ^ l.length ≤ 9 * 10 ^ l.length := Nat.mul_le_mul_right _ (by omega)
  omega
theorem ofNat_toNat {r : Nat} (h : r < 208) : (UInt8.ofNat (48 + r)).toNat = 48 + r := by
 rw [UInt8.toNat_ofNat']
 omega
theorem dv_of {r : Nat} (h : r < 10) : dv (UInt8.ofNat (48 + r)) = r := by unfold dv; rw [ofNat_toNat (by omega)]; omega
theorem isD_of {r : Nat} (h : r < 10) : isD (UInt8.ofNat (48 + r)) = true := by rw [isD_iff,ofNat_toNat (by omega)]; omega
theorem of_dv {c : UInt8} (h : isD c = true) : UInt8.ofNat (48 + dv c) = c := by
 have := isD_iff.1 h
 apply UInt8.toNat_inj.1
 rw [ofNat_toNat (by unfold dv; omega)]
 unfold dv; omega
theorem dd_small {u : Nat} (h : u < 10) : Lib.decDigits u = [UInt8.ofNat (48 + u)] := by rw [Lib.decDigits,dif_pos h]
theorem dd_big {u : Nat} (h : ¬ u < 10) : Lib.decDigits u = Lib.decDigits (u / 10) ++ [UInt8.ofNat (48 + u % 10)] := by conv=>lhs; rw [Lib.decDigits,dif_neg h]
theorem dd_facts : ∀ (n u : Nat),u < n → (Lib.decDigits u).all isD = true ∧ num (Lib.decDigits u) = u ∧ Lib.decDigits u ≠ [] ∧ (u ≠ 0 → (Lib.decDigits u).head? ≠ some 48)
 | 0,u,h=>by omega
 | n + 1,u,h=>by
  by_cases hs : u < 10
  ·rw [dd_small hs]
   refine ⟨by simp only [List.all_cons,List.all_nil,isD_of hs,Bool.and_true],?_,by simp,fun h0=>?_⟩
   ·show 10 * 0 + dv _ = u
    rw [dv_of hs]; omega
   ·simp only [List.head?_cons,ne_eq,Option.some.injEq]
    intro e
    have := congrArg UInt8.toNat e
    rw [ofNat_toNat (by omega)] at this
    have h48 : (48 : UInt8).toNat = 48 := rfl
    omega
  ·rw [dd_big hs]
   obtain ⟨h1,h2,h3,h4⟩ := dd_facts n (u / 10) (by omega)
   refine ⟨by simp only [List.all_append,List.all_cons,List.all_nil,h1,isD_of (Nat.mod_lt u (by omega : 0 < 10)),Bool.and_true],?_,by simp,fun _=>?_⟩
   ·rw [num_snoc,h2,dv_of (Nat.mod_lt _ (by omega))]; omega
   ·cases hd : Lib.decDigits (u / 10) with
    | nil=>exact absurd hd h3
    | cons c r =>
     have := h4 (by omega)
     rw [hd] at this
     simpa using this
theorem dd_dig (u : Nat) : (Lib.decDigits u).all isD = true := (dd_facts _ u (Nat.lt_succ_self u)).1
theorem dd_num (u : Nat) : num (Lib.decDigits u) = u := (dd_facts _ u (Nat.lt_succ_self u)).2.1
theorem dd_ne (u : Nat) : Lib.decDigits u ≠ [] := (dd_facts _ u (Nat.lt_succ_self u)).2.2.1
theorem dd_head {u : Nat} (h : u ≠ 0) : (Lib.decDigits u).head? ≠ some 48 := (dd_facts _ u (Nat.lt_succ_self u)).2.2.2 h
def canW (l : List UInt8) : Prop := l.all isD = true ∧ l ≠ [] ∧ (1 < l.length → l.head? ≠ some 48)
theorem dd_can (u : Nat) : canW (Lib.decDigits u) := by
 refine ⟨dd_dig u,dd_ne u,fun h=>?_⟩
 by_cases h0 : u = 0
 ·subst h0
  rw [dd_small (by omega)] at h
  simp at h
 ·exact dd_head h0
theorem num_pos {l : List UInt8} (h : l.all isD = true) (hne : l ≠ []) (hh : l.head? ≠ some 48) : 10 ^ (l.length - 1) ≤ num l := by
 cases l with
 | nil=>exact absurd rfl hne
 | cons c l =>
  simp only [List.all_cons,Bool.and_eq_true] at h
  simp only [List.head?_cons,ne_eq,Option.some.injEq] at hh
  have h1 := isD_iff.1 h.1
  have h2 : c.toNat ≠ 48 := fun e=>hh (UInt8.toNat_inj.1 e)
  rw [show num (c :: l) = numA (10 * 0 + dv c) l from rfl,numA_eq,List.length_cons,Nat.add_sub_cancel]
  have : 1 * 10 ^ l.length ≤ (10 * 0 + dv c) * 10 ^ l.length := Nat.mul_le_mul_right _ (by unfold dv; omega)
  omega
theorem dd_uniq : ∀ (n : Nat) (l : List UInt8),l.length = n → canW l → Lib.decDigits (num l) = l
 | 0,l,hl,h=>absurd (List.eq_nil_of_length_eq_zero hl) h.2.1
 | n + 1,l,hl,h=>by
  obtain ⟨xs,c,rfl⟩ : ∃ xs c,l = xs ++ [c] := ⟨l.dropLast,l.getLast h.2.1,(List.dropLast_concat_getLast h.2.1).symm⟩
  obtain ⟨h1,h2,h3⟩ := h
  simp only [List.all_append,Bool.and_eq_true,List.all_cons,List.all_nil,Bool.and_true] at h1
  have hd := dv_lt h1.2
  rw [num_snoc]
  cases xs with
  | nil =>
   simp only [List.nil_append]
   rw [show num [] = 0 from rfl,dd_small (by omega),Nat.mul_zero,Nat.zero_add,of_dv h1.2]
  | cons a r =>
   have hh : (a :: r).head? ≠ some 48 := by
    have := h3 (by simp)
    simpa using this
   have hp := num_pos h1.1 (by simp) hh
   have hp1 : 1 ≤ num (a :: r) := Nat.le_trans (Nat.pos_of_ne_zero (by simp)) hp
   rw [dd_big (by omega),show (10 * num (a :: r) + dv c) / 10 = num (a :: r) by omega,show (10 * num (a :: r) + dv c) % 10 = dv c by omega,of_dv h1.2,dd_uniq n (a :: r) (by simpa using hl) ⟨h1.1,by simp,fun _=>hh⟩]
theorem wrap_u64 (n : Int) : IntKind.u64.wrap n = n % 18446744073709551616 := by
 simp [IntKind.wrap,IntKind.bits,IntKind.signed]
theorem okStr_of {a b : List UInt8} (h : a.length + b.length ≤ 9223372036854775807) : okStr a b = true := decide_eq_true h
theorem fmtU (u : Nat) (h : u < 18446744073709551616) : strconv_FormatUint (u : Int) 10 = some (Lib.decDigits u) := by
 unfold strconv_FormatUint
 rw [show (decide ((0 : Int) ≤ (u : Int) ∧ (u : Int) < 18446744073709551616) && ((10 : Int) == 10)) = true by simp; omega,guardO_t,Int.toNat_natCast]
theorem dd_len (u : Nat) (h : u < 18446744073709551616) : (Lib.decDigits u).length ≤ 20 := by
 rcases Nat.lt_or_ge (Lib.decDigits u).length 21 with q | q
 ·omega
 ·exfalso
  by_cases h0 : u = 0
  ·subst h0
   rw [dd_small (by omega)] at q
   simp at q
  ·have h1 := num_pos (dd_dig u) (dd_ne u) (dd_head h0)
   rw [dd_num] at h1
   have h2 : 10 ^ 20 ≤ 10 ^ ((Lib.decDigits u).length - 1) := Nat.pow_le_pow_right (by omega) (by omega)
   omega
def strip : List UInt8 → Bool × List UInt8
 | []=>(false,[])
 | c :: r=>if c = 45 then (true,r) else (false,c :: r)
theorem strip_cons (c : UInt8) (r : List UInt8) : strip (c :: r) = if c = 45 then (true,r) else (false,c :: r) := rfl
theorem strip_len (s : List UInt8) : (strip s).2.length ≤ s.length := by
 cases s with
 | nil=>simp [strip]
 | cons c r=>rw [strip_cons]; split <;> simp
def cutV (l : List UInt8) : List UInt8 × List UInt8 × Bool := (l.takeWhile (· != 46),(l.dropWhile (· != 46)).drop 1,l.contains 46)
def zer (k : Nat) : List UInt8 := List.replicate k 48
def digB (l : List UInt8) : Bool := l.all isD && !l.isEmpty
theorem cutPre (s : List UInt8) (hs : s.length ≤ 1000000) : strings_CutPrefix s [45] = some ((strip s).2,(strip s).1) := by
 unfold strings_CutPrefix stringslite_CutPrefix stringslite_HasPrefix
 cases s with
 | nil=>rfl
 | cons c r =>
  have h1 : decide (((c :: r).length : Int) ≥ (([45] : List UInt8).length : Int)) = true := by simp; omega
  have h2 : cutT (c :: r) (([45] : List UInt8).length : Int) = some [c] := by unfold cutT; rw [if_neg (by simp; omega)]; rfl
  have h3 : cutF (c :: r) (([45] : List UInt8).length : Int) = some r := by unfold cutF; rw [if_neg (by simp; omega)]; rfl
  rw [h1,if_pos rfl,h2,bindO_s,bindO_s,bindO_s,h3]
  rw [strip_cons]
  by_cases hc : c = 45
  ·subst hc; rfl
  ·rw [if_neg hc,show (([c] : List UInt8) == [45]) = false by simpa using hc]
   rfl
theorem idx_facts : ∀ l : List UInt8,(Lib.indexByte l 46 = -1 ∧ l.takeWhile (· != 46) = l ∧ l.dropWhile (· != 46) = [] ∧ l.contains 46 = false) ∨ (∃ o : Nat,Lib.indexByte l 46 = (o : Int) ∧ o < l.length ∧ l.take o = l.takeWhile (· != 46) ∧ l.drop o = l.dropWhile (· != 46) ∧ l.contains 46 = true)
 | []=>.inl ⟨rfl,rfl,rfl,rfl⟩
 | b :: l=>by
  unfold Lib.indexByte
  by_cases hb : b = 46
  ·subst hb
   exact .inr ⟨0,rfl,by simp,rfl,by simp,by simp⟩
  ·have hb1 : (b == 46) = false := by simpa using hb
   have hb2 : (b != 46) = true := by simp [hb]
   have hb3 : ((46 : UInt8) == b) = false := by simpa using fun e=>hb e.symm
   rw [hb1]
   simp only [Bool.false_eq_true,if_false,List.takeWhile_cons,List.dropWhile_cons,hb2,if_true,List.contains_cons,hb3,Bool.false_or]
   rcases idx_facts l with ⟨h1,h2,h3,h4⟩ | ⟨o,h1,h2,h3,h4,h5⟩
   ·left
    rw [h1,h2]
    exact ⟨rfl,rfl,h3,h4⟩
   ·right
    have hne : ((o : Int) == -1) = false := by simp
    rw [h1,hne]
    refine ⟨o + 1,by simp,by simpa using h2,?_,by simpa using h4,h5⟩
    rw [List.take_succ_cons,h3]
theorem cutEq (s : List UInt8) (hs : s.length ≤ 1000000) : strings_Cut s [46] = some (cutV s) := by
 have hi : stringslite_Index s [46] = some (Lib.indexByte s 46) := by
  unfold stringslite_Index
  by_cases he : s = [46]
  ·subst he; rfl
  ·have : (((([46] : List UInt8).length : Int) == 0) || (([46] : List UInt8) == s)) = false := by
    simp
    exact fun e=>he e.symm
   rw [this]
   rfl
 unfold strings_Cut stringslite_Cut
 rw [hi,bindO_s]
 unfold cutV
 rcases idx_facts s with ⟨h1,h2,h3,h4⟩ | ⟨o,h1,h2,h3,h4,h5⟩
 ·rw [h1,h2,h3,h4]; rfl
 ·rw [h1,h5,← h3,← h4]
  have hw : IntKind.i64.wrap ((o : Int) + (([46] : List UInt8).length : Int)) = ((o + 1 : Nat) : Int) := by
   simp only [List.length_cons,List.length_nil]
   rw [wrap_i64 (by omega) (by omega)]; omega
  have hc1 : cutT s (o : Int) = some (s.take o) := by unfold cutT; rw [if_neg (by omega),Int.toNat_natCast]
  have hc2 : cutF s ((o + 1 : Nat) : Int) = some (s.drop (o + 1)) := by unfold cutF; rw [if_neg (by omega),Int.toNat_natCast]
  rw [decide_eq_true (show (o : Int) ≥ 0 by omega),if_pos rfl,hc1,bindO_s,hw,hc2,bindO_s,bindO_s,List.drop_drop]
theorem digs_contains (c : UInt8) : ([48,49,50,51,52,53,54,55,56,57] : List UInt8).contains c = isD c := by
 have key : ∀ k,k < 256 → ([48,49,50,51,52,53,54,55,56,57] : List UInt8).contains (UInt8.ofNat k) = (decide (48 ≤ k) && decide (k ≤ 57)) := of_decide_eq_true (by kernel_rfl)
 have := key c.toNat (UInt8.toNat_lt c)
 rw [UInt8.ofNat_toNat] at this
 rw [this]; rfl
theorem dw_nil {p : UInt8 → Bool} : ∀ {l : List UInt8},l.dropWhile p = [] ↔ ∀ x ∈ l,p x = true
 | []=>by simp
 | c :: l=>by
  rw [List.dropWhile_cons]
  cases h : p c with
  | true=>rw [if_pos rfl,dw_nil]; simp [h]
  | false=>simp [h]
theorem trim_nil (l cs : List UInt8) (p : UInt8 → Bool) (hp : ∀ c,cs.contains c = p c) : (Lib.trimS l cs == []) = l.all p := by
 have hfun : (cs.contains ·) = p := funext hp
 unfold Lib.trimS Lib.trimLeftS Lib.trimRightS
 rw [hfun]
 cases hall : l.all p with
 | true =>
  have : l.reverse.dropWhile p = [] := by
   rw [dw_nil]
   intro x hx
   exact List.all_eq_true.1 hall x (by simpa using hx)
  rw [this]; rfl
 | false =>
  cases hd : l.reverse.dropWhile p with
  | nil =>
   rw [dw_nil] at hd
   have : l.all p = true := List.all_eq_true.2 fun x hx=>hd x (by simpa using hx)
   rw [this] at hall; cases hall
  | cons c r =>
   have hc : p c = false := by
    have := List.head?_dropWhile_not p l.reverse
    rw [hd] at this
    simpa using this
   have : (List.dropWhile p (c :: r).reverse) ≠ [] := by
    intro e
    rw [dw_nil] at e
    have := e c (by simp)
    rw [hc] at this; cases this
   cases hx : List.dropWhile p (c :: r).reverse with
   | nil=>exact absurd hx this
   | cons a b=>rfl
theorem tw_len (p : UInt8 → Bool) (l : List UInt8) : (l.takeWhile p).length ≤ l.length ∧ (l.dropWhile p).length ≤ l.length := by
 have h := congrArg List.length (List.takeWhile_append_dropWhile (p := p) (l := l))
 rw [List.length_append] at h
 omega
theorem zer_dig (k : Nat) : (zer k).all isD = true := by
 unfold zer
 rw [List.all_eq_true]
 intro x hx
 rw [List.eq_of_mem_replicate hx]
 rfl
theorem dig_ne {c : UInt8} (h : isD c = true) : c ≠ 46 ∧ c ≠ 45 := by
 have := isD_iff.1 h
 refine ⟨fun e=>?_,fun e=>?_⟩
 ·subst e; have : (46 : UInt8).toNat = 46 := rfl; omega
 ·subst e; have : (45 : UInt8).toNat = 45 := rfl; omega
theorem tw_all : ∀ (w r : List UInt8),w.all isD = true → (r = [] ∨ ∃ q,r = 46 :: q) → (w ++ r).takeWhile (· != 46) = w ∧ (w ++ r).dropWhile (· != 46) = r
 | [],r,_,hr=>by rcases hr with rfl | ⟨q,rfl⟩ <;> simp
 | c :: w,r,h,hr=>by
  simp only [List.all_cons,Bool.and_eq_true] at h
  have hc : (c != 46) = true := by simpa using (dig_ne h.1).1
  obtain ⟨h1,h2⟩ := tw_all w r h.2 hr
  simp only [List.cons_append,List.takeWhile_cons,List.dropWhile_cons,hc,if_true,h1,h2,and_self]
theorem cont_dig : ∀ (w : List UInt8),w.all isD = true → w.contains 46 = false
 | [],_=>rfl
 | c :: w,h=>by
  simp only [List.all_cons,Bool.and_eq_true] at h
  rw [List.contains_cons,cont_dig w h.2,show ((46 : UInt8) == c) = false by simpa using fun e=>(dig_ne h.1).1 e.symm]; rfl
theorem cutV_of (w p : List UInt8) (pt : Bool) (hw : w.all isD = true) (hp : pt = false → p = []) : cutV (w ++ (if pt = true then 46 :: p else [])) = (w,p,pt) := by
 unfold cutV
 cases pt with
 | true =>
  obtain ⟨h1,h2⟩ := tw_all w (46 :: p) hw (.inr ⟨p,rfl⟩)
  rw [if_pos rfl,h1,h2]
  simp
 | false =>
  obtain ⟨h1,h2⟩ := tw_all w [] hw (.inl rfl)
  rw [if_neg (by simp),h1,h2,hp rfl,List.append_nil,cont_dig w hw]; rfl
theorem strip_of (neg : Bool) (b : List UInt8) (h : b.head? ≠ some 45) : strip ((if neg = true then [45] else []) ++ b) = (neg,b) := by
 cases neg with
 | true=>rfl
 | false =>
  cases b with
  | nil=>rfl
  | cons c r =>
   show strip (c :: r) = _
   rw [strip_cons,if_neg]
   intro e; subst e; exact h rfl
theorem digB_of {l : List UInt8} (h : l.all isD = true) (hne : l ≠ []) : digB l = true := by
 unfold digB
 rw [h]
 cases l with
 | nil=>exact absurd rfl hne
 | cons c r=>rfl
theorem strip_inv (s : List UInt8) : s = (if (strip s).1 = true then [45] else []) ++ (strip s).2 := by
 cases s with
 | nil=>rfl
 | cons c r =>
  rw [strip_cons]
  by_cases h : c = 45
  ·rw [if_pos h,h]; rfl
  ·rw [if_neg h]; rfl
theorem cutV_inv (l : List UInt8) : l = (cutV l).1 ++ (if (cutV l).2.2 = true then 46 :: (cutV l).2.1 else []) ∧ ((cutV l).2.2 = false → (cutV l).2.1 = []) := by
 have h := List.takeWhile_append_dropWhile (p := (· != 46)) (l := l)
 unfold cutV
 simp only
 rcases idx_facts l with ⟨_,h2,h3,h4⟩ | ⟨o,_,h2,h3,h4,h5⟩
 ·rw [h4,h2,h3]
  simp
 ·rw [h5]
  refine ⟨?_,fun q=>by cases q⟩
  rw [if_pos rfl]
  cases hd : l.dropWhile (· != 46) with
  | nil =>
   rw [hd] at h4
   have := congrArg List.length h4
   simp at this; omega
  | cons c r =>
   have hc := List.head?_dropWhile_not (· != 46) l
   rw [hd] at hc
   simp at hc
   rw [hd,hc] at h
   simpa using h.symm
theorem num_app (w q : List UInt8) : num (w ++ q) = num w * 10 ^ q.length + num q := by
 show numA 0 (w ++ q) = _
 rw [numA_append,numA_eq]; rfl
end Go.Proofs.YthljcnchaopncaaGreatDoor
namespace Go.Proofs.YthljcnchaopncaaGreatDoor
open Go.RowKit
set_option linter.unusedVariables false
set_option linter.unusedSimpArgs false
theorem notD {c : UInt8} : ((decide ((c.toNat : Int) < 48)) || (decide ((c.toNat : Int) > 57))) = !isD c := by
 unfold isD
 by_cases h1 : 48 ≤ c.toNat <;> by_cases h2 : c.toNat ≤ 57
 ·rw [decide_eq_true h1,decide_eq_true h2,decide_eq_false (by omega),decide_eq_false (by omega)]; rfl
 ·rw [decide_eq_true h1,decide_eq_false h2,decide_eq_false (by omega),decide_eq_true (by omega)]; rfl
 ·rw [decide_eq_false h1,decide_eq_true h2,decide_eq_true (by omega)]; rfl
 ·rw [decide_eq_false h1,decide_eq_false h2,decide_eq_true (by omega)]; rfl
theorem pw_ten : ∀ n : Nat,pw n = ((10 ^ (9 * n) : Nat) : Int)
 | 0=>rfl
 | n + 1=>by
  rw [pw_succ,pw_ten n,show 9 * (n + 1) = 9 * n + 9 by omega,Nat.pow_add,Int.natCast_mul]
  have : ((10 ^ 9 : Nat) : Int) = 1000000000 := rfl
  rw [this,Int.mul_comm]
def canI (neg : Bool) (b : List UInt8) : Prop := canW b ∧ (neg = true → num b ≠ 0)
theorem canW_zero {b : List UInt8} (h : canW b) (h0 : b.head? = some 48) : b = [48] := by
 obtain ⟨h1,h2,h3⟩ := h
 cases b with
 | nil=>exact absurd rfl h2
 | cons c l =>
  simp at h0; subst h0
  cases l with
  | nil=>rfl
  | cons d l=>exact absurd rfl (h3 (by simp))
end Go.Proofs.YthljcnchaopncaaGreatDoor
namespace Go.Proofs.YthljcnchaopncaaGreatDoor
open Go.RowKit
set_option linter.unusedVariables false
set_option linter.unusedSimpArgs false
theorem pow_loop {k : Nat} (hk : k ≤ 8) : loopX (fun (v5 : Int × Int) =>
                      if (decide (v5.2 < (k : Int))) = true then
                        some (.go (IntKind.u32.wrap (v5.1 * 10),IntKind.i64.wrap (v5.2 + 1)))
                      else
                        some (.ret v5.1)) fuel (1,0) = some ((10 ^ k : Nat) : Int) := by
  apply Tot.get
  refine Tot.loop (fun m v=>∃ j : Nat,m + j = k ∧ v = (((10 ^ j : Nat) : Int),(j : Int))) _ k (fuel_gt (by omega)) ⟨0,by omega,rfl⟩ (fun m v hv=>?_)
  obtain ⟨j,hj,rfl⟩ := hv
  dsimp only
  refine TotX.ite (fun q=>?_) (fun q=>.ret ?_)
  · have q' : j < k := by simp at q; omega
    have hp : 10 ^ j ≤ 10 ^ 7 := Nat.pow_le_pow_right (by omega) (by omega)
    rw [show (10 : Nat) ^ 7 = 10000000 from rfl] at hp
    have e : ((10 ^ (j + 1) : Nat) : Int) = ((10 ^ j : Nat) : Int) * 10 := by rw [Nat.pow_succ,Int.natCast_mul]; rfl
    have e2 : (((j + 1 : Nat)) : Int) = (j : Int) + 1 := rfl
    refine .go ⟨m - 1,by omega,j + 1,by omega,?_⟩
    rw [e,e2]
    generalize 10 ^ j = P at *
    rw [wU32 (by omega) (by omega),wI64 (by omega) (by omega)]
  · have q' : ¬ j < k := by simp at q; omega
    rw [show j = k by omega]
def zeroBelow (l : List Int) (p : Nat) : Prop := ∀ k,lb l k % ((10 ^ (min 9 (p - 9 * k)) : Nat) : Int) = 0
theorem strip_neg (s : List UInt8) : (strip s).1 = (s.head? == some 45) := by
 cases s with
 | nil=>rfl
 | cons c r =>
  rw [strip_cons]
  by_cases h : c = 45
  ·subst h; rfl
  ·rw [if_neg h]
   simp [h]
theorem c45 (c : UInt8) : ((c.toNat : Int) == 45) = (c == 45) := by
 by_cases h : c = 45
 ·subst h; rfl
 ·have h2 : c.toNat ≠ 45 := fun z=>h (UInt8.toNat_inj.1 (by rw [z]; rfl))
  rw [beq_eq_false_iff_ne.2 h,beq_eq_false_iff_ne.2 (by omega)]
theorem strip_word {s : List UInt8} (hl : s.length ≤ 1000000) : Tot (bindO (if (decide ((s.length : Int) > 0)) = true then
        bindO (gt s 0) fun (c1 : UInt8) =>
        some ((c1.toNat : Int) == 45)
      else
        some false) fun (v1 : Bool) =>
  bindO (if v1 = true then
        bindO (cutF s 1) fun (s1 : List UInt8) =>
        some s1
      else
        some s) fun (v2 : List UInt8)=>some (v1,v2)) (fun p=>p = strip s) := by
  cases s with
  | nil=>exact .ok rfl
  | cons c r =>
    have e0 : gt (c :: r) 0 = some c := rfl
    refine Tot.bind (E := fun v=>v = (c == 45)) (Tot.ite (fun _=>?_) (fun q=>absurd q (by simp))) (fun v hv=>?_)
    · rw [e0,bindO_s,c45]; exact .ok rfl
    · subst hv
      rw [strip_cons]
      by_cases h : c = 45
      · subst h
        refine Tot.bind (E := fun v=>v = r) (Tot.ite (fun _=>?_) (fun q=>absurd q (by simp))) (fun v hv=>by subst hv; exact .ok rfl)
        have : cutF (45 :: r) 1 = some r := by
          unfold cutF
          rw [if_neg (by simp; omega)]; rfl
        rw [this]; exact .ok rfl
      · rw [if_neg h]
        have hb : (c == 45) = false := beq_eq_false_iff_ne.2 h
        rw [hb]
        exact .ok rfl
theorem pow_dvd_mod {x : Int} {a b : Nat} (h : x % ((10 ^ b : Nat) : Int) = 0) (hab : a ≤ b) : x % ((10 ^ a : Nat) : Int) = 0 := by
 have h1 : ((10 ^ b : Nat) : Int) ∣ x := Int.dvd_of_emod_eq_zero h
 have h2 : ((10 ^ a : Nat) : Int) ∣ ((10 ^ b : Nat) : Int) := Int.ofNat_dvd.2 (Nat.pow_dvd_pow 10 hab)
 exact Int.emod_eq_zero_of_dvd (Int.dvd_trans h2 h1)
theorem lb_set {l : List Int} {i j : Nat} {x : Int} (h : i < l.length) : lb (l.set i x) j = if i = j then x else lb l j := by
 unfold lb
 rw [List.getElem?_set]
 by_cases e : i = j
 ·subst e; rw [if_pos rfl,if_pos rfl,if_pos h]; rfl
 ·rw [if_neg e,if_neg e]
theorem put_digit {l : List Int} {at' : Nat} {d : Nat} (ho : okL l) (hk : at' / 9 < l.length) (hz : zeroBelow l (at' + 1)) (hd : d < 10) :
  0 ≤ lb l (at' / 9) ∧ lb l (at' / 9) + ((d * 10 ^ (at' % 9) : Nat) : Int) < 1000000000 ∧ zeroBelow (l.set (at' / 9) (lb l (at' / 9) + ((d * 10 ^ (at' % 9) : Nat) : Int))) at' := by
 have hr : at' % 9 < 9 := Nat.mod_lt _ (by omega)
 have hdm := Nat.div_add_mod at' 9
 generalize hkk : at' / 9 = k at *
 generalize hrr : at' % 9 = r at *
 have h1 := lb_ok ho k
 have h2 := hz k
 rw [show min 9 (at' + 1 - 9 * k) = r + 1 by omega] at h2
 have hlt : lb l k + ((d * 10 ^ r : Nat) : Int) < 1000000000 := by
  -- l k is a multiple of 10^(r+1), and so is the base
  obtain ⟨q,hq⟩ := Int.dvd_of_emod_eq_zero h2
  obtain ⟨t,ht⟩ : ∃ t : Nat,r + 1 + t = 9 := ⟨8 - r,by omega⟩
  have hB : (1000000000 : Int) = ((10 ^ (r + 1) : Nat) : Int) * ((10 ^ t : Nat) : Int) := by
   rw [← Int.natCast_mul,← Nat.pow_add,ht]; rfl
  have hp : (0 : Int) < ((10 ^ (r + 1) : Nat) : Int) := by have := Nat.pow_pos (n := r + 1) (show 0 < 10 by omega); omega
  have hqt : q < ((10 ^ t : Nat) : Int) := by
   rcases Int.lt_or_le q ((10 ^ t : Nat) : Int) with z | z
   ·exact z
   ·have := Int.mul_le_mul_of_nonneg_left z (Int.le_of_lt hp)
    omega
  have h3 := Int.mul_le_mul_of_nonneg_left (show q + 1 ≤ ((10 ^ t : Nat) : Int) by omega) (Int.le_of_lt hp)
  have h4 : ((d * 10 ^ r : Nat) : Int) < ((10 ^ (r + 1) : Nat) : Int) := by
   have : d * 10 ^ r < 10 * 10 ^ r := Nat.mul_lt_mul_of_pos_right hd (Nat.pow_pos (by omega))
   have e : 10 ^ (r + 1) = 10 * 10 ^ r := by rw [Nat.pow_succ,Nat.mul_comm]
   omega
  have h5 : ((10 ^ (r + 1) : Nat) : Int) * (q + 1) = ((10 ^ (r + 1) : Nat) : Int) * q + ((10 ^ (r + 1) : Nat) : Int) := by grind
  omega
 refine ⟨h1.1,hlt,fun j=>?_⟩
 rw [lb_set hk]
 by_cases e : k = j
 ·subst e
  rw [if_pos rfl,show min 9 (at' - 9 * k) = r by omega]
  have h3 := pow_dvd_mod (a := r) h2 (by omega)
  have h4 : ((d * 10 ^ r : Nat) : Int) % ((10 ^ r : Nat) : Int) = 0 := by
   rw [Int.natCast_mul]; exact Int.mul_emod_left _ _
  have h5 := Int.dvd_of_emod_eq_zero h3
  have h6 := Int.dvd_of_emod_eq_zero h4
  exact Int.emod_eq_zero_of_dvd (Int.dvd_add h5 h6)
 ·rw [if_neg e]
  have h3 := hz j
  by_cases lt : j < k
  ·rw [show min 9 (at' - 9 * j) = 9 by omega]
   rw [show min 9 (at' + 1 - 9 * j) = 9 by omega] at h3
   exact h3
  ·rw [show at' - 9 * j = 0 by omega,show min 9 0 = 0 from rfl]
   exact Int.emod_one _
theorem r01_Parse_eq {s : List UInt8} {neg : Bool} {b : List UInt8} (hs : strip s = (neg,b)) (h : canI neg b) (hl : s.length ≤ 65536) : r01_Parse s = some (ofI (if neg = true then -(num b : Int) else (num b : Int)),0) := by
  obtain ⟨hb,hn⟩ := h
  have hbl : b.length ≤ s.length := by have := strip_len s; rw [hs] at this; exact this
  have hb' := hb
  obtain ⟨hb1,hb2,hb3⟩ := hb
  have hsn : s ≠ [] := fun z=>by subst z; simp at hbl; exact hb2 hbl
  have hneg := strip_neg s
  rw [hs] at hneg
  dsimp only at hneg
  apply Tot.get
  unfold r01_Parse
  obtain ⟨⟨u1,u2⟩,hu,he⟩ := strip_word (s := s) (by omega)
  rw [hs] at he
  injection he with e1 e2
  subst e1 e2
  -- the first two statements
  cases hv1 : (if (decide ((s.length : Int) > 0)) = true then
        bindO (gt s 0) fun (c1 : UInt8) =>
        some ((c1.toNat : Int) == 45)
      else
        some false) with
  | none=>rw [hv1] at hu; cases hu
  | some v1 =>
    rw [hv1,bindO_s] at hu
    rw [bindO_s]
    cases hv2 : (if v1 = true then
        bindO (cutF s 1) fun (s1 : List UInt8) =>
        some s1
      else
        some s) with
    | none=>rw [hv2] at hu; cases hu
    | some v2 =>
      rw [hv2,bindO_s] at hu
      rw [bindO_s]
      injection hu with hu
      injection hu with hu1 hu2
      subst hu1 hu2
      clear hv1 hv2
      refine Tot.bind (E := fun v=>v = false) (Tot.ite (fun q=>absurd (by simpa using q) hb2) (fun _=>Tot.ite (fun q=>absurd q (by simp; omega)) (fun _=>?_))) (fun v hv=>?_)
      · cases hc : v2 with
        | nil=>exact absurd hc hb2
        | cons c r =>
          have e0 : gt (c :: r) 0 = some c := rfl
          rw [e0,bindO_s]
          refine Tot.ite (fun q=>.ok ?_) (fun _=>.ok rfl)
          have hc48 : c = 48 := by
            have : c.toNat = 48 := by simp at q; omega
            exact UInt8.toNat_inj.1 (by rw [this]; rfl)
          have hz := canW_zero hb' (by rw [hc,hc48]; rfl)
          have hn0 : v1 = false := by
            cases v1 with
            | false=>rfl
            | true=>exact absurd (by rw [hz]; rfl) (hn rfl)
          have hsv : s = v2 := by
            have := strip_inv s
            rw [hs,hn0] at this
            simpa using this
          rw [hsv,hz]; rfl
      · subst hv
        refine Tot.ite (fun q=>by cases q) (fun _=>?_)
        have hL : IntKind.i64.wrap ((IntKind.i64.wrap (Int.tdiv (v2.length : Int) 9)) + 1) = ((v2.length / 9 + 1 : Nat) : Int) := by
          rw [tdv (by omega),wI64 (n := (v2.length : Int) / 9) (by omega) (by omega),wI64 (by omega) (by omega)]; omega
        rw [hL,Int.toNat_natCast]
        refine Tot.guard (decide_eq_true (by omega)) (Tot.guard (okLen_of (by omega)) ?_)
        refine Tot.bindX (E := fun l=>okL l ∧ val l = (num v2 : Int) ∧ l.length = v2.length / 9 + 1) (TotX.of (Tot.guard (okIdx_of (by omega)) (Tot.range (fun i l=>okL l ∧ l.length = v2.length / 9 + 1 ∧ zeroBelow l (v2.length - i) ∧ val l = ((num (v2.take i) * 10 ^ (v2.length - i) : Nat) : Int)) _ ⟨okL_rep _,by simp,?_,?_⟩ (fun i c l hx hr=>?_) (fun l hr=>.ok ?_)))) (fun l hl'=>?_)
        · intro k
          have : lb (List.replicate (v2.length / 9 + 1) (0 : Int)) k = 0 := by
            unfold lb
            rw [List.getElem?_replicate]
            split <;> rfl
          rw [this]; exact Int.zero_emod _
        · rw [val_rep]; simp [num,numA]
        · obtain ⟨r1,r2,r3,r4⟩ := hr
          have hil := getElem_lt hx
          have hd := List.all_eq_true.1 hb1 c (List.mem_of_getElem? hx)
          have hd1 := isD_iff.1 hd
          have hat : IntKind.i64.wrap ((IntKind.i64.wrap ((v2.length : Int) - 1)) - (i : Int)) = ((v2.length - 1 - i : Nat) : Int) := by
            rw [wI64 (n := (v2.length : Int) - 1) (by omega) (by omega),wI64 (by omega) (by omega)]; omega
          rw [hat]
          obtain ⟨p,hp⟩ : ∃ p,v2.length - 1 - i = p := ⟨_,rfl⟩
          have hp1 : v2.length - i = p + 1 := by omega
          rw [hp]
          rw [hp1] at r3 r4
          have hdv : IntKind.i64.wrap (Int.tdiv ((p : Nat) : Int) 9) = ((p / 9 : Nat) : Int) := by rw [tdv (by omega),wI64 (by omega) (by omega)]; omega
          have hmd : Int.tmod ((p : Nat) : Int) 9 = ((p % 9 : Nat) : Int) := by rw [tmd (by omega)]; omega
          rw [hdv,hmd,Int.toNat_natCast]
          have hpl : p / 9 < l.length := by omega
          have hm9 : p % 9 < 9 := Nat.mod_lt _ (by omega)
          refine TotX.bindX (E := fun u=>u = l.set (p / 9) (lb l (p / 9) + ((dv c * 10 ^ (p % 9) : Nat) : Int))) (TotX.ite (fun q=>absurd q (by rw [notD,hd]; simp)) (fun _=>?_)) (fun u hu=>?_)
          · rw [pow_loop (by omega),bindO_s,gt_l hpl,bindO_s,bindO_s]
            have h8 : IntKind.u8.wrap ((c.toNat : Int) - 48) = (c.toNat : Int) - 48 := by
              unfold IntKind.wrap; simp [IntKind.signed,IntKind.bits]; omega
            obtain ⟨z1,z2,z3⟩ := put_digit r1 hpl r3 (dv_lt hd)
            have hpe : ((dv c * 10 ^ (p % 9) : Nat) : Int) = ((c.toNat : Int) - 48) * ((10 ^ (p % 9) : Nat) : Int) := by
              rw [Int.natCast_mul]; congr 1; unfold dv; omega
            have hm0 : (0 : Int) ≤ ((dv c * 10 ^ (p % 9) : Nat) : Int) := by omega
            rw [h8,wU32 (n := (c.toNat : Int) - 48) (by omega) (by omega),← hpe,wU32 (n := ((dv c * 10 ^ (p % 9) : Nat) : Int)) hm0 (by omega),wU32 (by omega) (by omega)]
            exact .go rfl
          · subst hu
            obtain ⟨z1,z2,z3⟩ := put_digit r1 hpl r3 (dv_lt hd)
            refine .go ⟨okL_set r1 (by omega) z2,by simp [r2],by rw [show v2.length - (i + 1) = p by omega]; exact z3,?_⟩
            have hgl : l[p / 9]? = some (lb l (p / 9)) := by
              have := List.getElem?_eq_getElem hpl
              rw [lb_of this]; exact this
            rw [val_set l _ _ _ hgl,r4,show v2.length - (i + 1) = p by omega,List.take_add_one,hx]
            show _ = ((num (v2.take i ++ [c]) * 10 ^ p : Nat) : Int)
            rw [num_snoc,pw_ten]
            have hpp : (10 : Nat) ^ p = 10 ^ (p % 9) * 10 ^ (9 * (p / 9)) := by rw [← Nat.pow_add]; congr 1; omega
            have e1 : lb l (p / 9) + ((dv c * 10 ^ (p % 9) : Nat) : Int) - lb l (p / 9) = ((dv c * 10 ^ (p % 9) : Nat) : Int) := by omega
            rw [e1,← Int.natCast_mul,← Int.natCast_add]
            congr 1
            rw [Nat.pow_succ,hpp]
            generalize (10 : Nat) ^ (p % 9) = A
            generalize (10 : Nat) ^ (9 * (p / 9)) = B
            grind
        · obtain ⟨r1,r2,r3,r4⟩ := hr
          refine ⟨r1,?_,r2⟩
          rw [r4,Nat.sub_self,List.take_of_length_le (Nat.le_refl _)]; simp
        · obtain ⟨l1,l2,l3⟩ := hl'
          cases hs0 : s with
          | nil=>exact absurd hs0 hsn
          | cons c r =>
            have e0 : gt (c :: r) 0 = some c := rfl
            have hcn : (c == 45) = v1 := by
              rw [hneg,hs0]
              by_cases z : c = 45
              · subst z; rfl
              · rw [beq_eq_false_iff_ne.2 z]; simp [z]
            rw [e0,bindO_s,c45,hcn,r01_signed_eq _ _ (by omega) l1,bindO_s,l2]
            exact .ok rfl
end Go.Proofs.YthljcnchaopncaaGreatDoor
