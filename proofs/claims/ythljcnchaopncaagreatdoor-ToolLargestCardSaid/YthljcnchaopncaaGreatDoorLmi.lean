/-
  Lm, Li in one text.
-/
import Derived.Test.YthljcnchaopncaaGreatDoorPz
import Derived.Test.YthljcnchaopncaaGreatDoorMI
namespace Go.Proofs.YthljcnchaopncaaGreatDoor
open Go.RowKit
def val : List Int → Int
 | []=>0
 | x :: l=>x + 1000000000 * val l
def okL (l : List Int) : Prop := ∀ x ∈ l,0 ≤ x ∧ x < 1000000000
def pw : Nat → Int
 | 0=>1
 | n + 1=>1000000000 * pw n
theorem pw_pos : ∀ n,0 < pw n
 | 0=>by simp [pw]
 | n + 1=>by have := pw_pos n; simp only [pw]; omega
theorem pw_succ (n : Nat) : pw (n + 1) = 1000000000 * pw n := rfl
theorem pw_add (a : Nat) : ∀ b,pw (a + b) = pw a * pw b
 | 0=>by simp [pw]
 | b + 1=>by rw [← Nat.add_assoc,pw_succ,pw_succ,pw_add a b,Int.mul_left_comm]
theorem pw_mono {a b : Nat} (h : a ≤ b) : pw a ≤ pw b := by
 induction b with
 | zero=>rw [show a = 0 by omega]; exact Int.le_refl _
 | succ b ih =>
  rcases Nat.eq_or_lt_of_le h with e | e
  ·rw [e]; exact Int.le_refl _
  ·have := ih (by omega); have := pw_pos b; rw [pw_succ]; omega
theorem val_cons (x : Int) (l : List Int) : val (x :: l) = x + 1000000000 * val l := rfl
theorem val_append : ∀ (a b : List Int),val (a ++ b) = val a + pw a.length * val b
 | [],b=>by simp [val,pw]
 | x :: a,b=>by
  rw [List.cons_append,val_cons,val_cons,val_append a b,List.length_cons,pw_succ]
  grind
theorem okL_nil : okL [] := fun x h=>by simp at h
theorem okL_cons {x : Int} {l : List Int} : okL (x :: l) ↔ (0 ≤ x ∧ x < 1000000000) ∧ okL l := by
 unfold okL; simp
theorem okL_get {l : List Int} {i : Nat} {x : Int} (h : okL l) (hx : l[i]? = some x) : 0 ≤ x ∧ x < 1000000000 := h x (List.mem_of_getElem? hx)
theorem okL_take {l : List Int} (n : Nat) (h : okL l) : okL (l.take n) := fun x hx=>h x (List.mem_of_mem_take hx)
theorem okL_drop {l : List Int} (n : Nat) (h : okL l) : okL (l.drop n) := fun x hx=>h x (List.mem_of_mem_drop hx)
theorem val_bound : ∀ {l : List Int},okL l → 0 ≤ val l ∧ val l < pw l.length
 | [],_=>by simp [val,pw]
 | x :: l,h=>by
  obtain ⟨h1,h2⟩ := okL_cons.1 h
  have := val_bound h2
  rw [val_cons,List.length_cons,pw_succ]
  omega
theorem val_take_drop (l : List Int) (n : Nat) (h : n ≤ l.length) : val l = val (l.take n) + pw n * val (l.drop n) := by
 have := val_append (l.take n) (l.drop n)
 rw [List.take_append_drop,List.length_take,Nat.min_eq_left h] at this
 exact this
theorem val_drop_one {l : List Int} {i : Nat} {x : Int} (h : l[i]? = some x) : val (l.drop i) = x + 1000000000 * val (l.drop (i + 1)) := by
 have : l.drop i = x :: l.drop (i + 1) := by
  have hl := getElem_lt h
  rw [List.drop_eq_getElem_cons hl]
  rw [List.getElem?_eq_getElem hl] at h
  injection h with h
  rw [h]
 rw [this,val_cons]
def trm : List Int → List Int
 | []=>[]
 | x :: l=>if x = 0 ∧ trm l = [] then [] else x :: trm l
theorem trm_tail {x : Int} {l : List Int} (h : trm (x :: l) = x :: l) : trm l = l := by
 rw [trm] at h
 split at h
 ·simp at h
 ·injection h
theorem last_trm : ∀ {l : List Int} {x : Int},trm l = l → l.getLast? = some x → x ≠ 0
 | [],x,_,h=>by simp at h
 | [y],x,t,h=>by
  simp at h; subst h
  intro q
  simp [trm,q] at t
 | y :: z :: l,x,t,h=>by
  rw [List.getLast?_cons_cons] at h
  exact last_trm (trm_tail t) h
theorem pw_le_val {l : List Int} {n : Nat} (ho : okL l) (ht : trm l = l) (hn : l.length = n + 1) : pw n ≤ val l := by
 have hl : l[n]? = some l[n] := List.getElem?_eq_getElem (by omega)
 have hx : l.getLast? = some l[n] := by
  rw [List.getLast?_eq_getElem?,show l.length - 1 = n by omega]; exact hl
 have h0 := last_trm ht hx
 have hb := okL_get ho hl
 have h1 := val_take_drop l n (by omega)
 have h2 := (val_bound (okL_take n ho)).1
 have h3 := (val_bound (okL_drop (n + 1) ho)).1
 rw [val_drop_one hl] at h1
 have h4 : pw n * 1 ≤ pw n * (l[n] + 1000000000 * val (l.drop (n + 1))) := Int.mul_le_mul_of_nonneg_left (by omega) (Int.le_of_lt (pw_pos n))
 omega
theorem len_le_of_val {a : List Int} {n : Nat} (ha : okL a) (ta : trm a = a) (h : val a < pw n) : a.length ≤ n := by
 rcases Nat.lt_or_ge n a.length with q | q
 ·have h2 := pw_le_val (n := a.length - 1) ha ta (by omega)
  have h3 := pw_mono (a := n) (b := a.length - 1) (by omega)
  omega
 ·exact q
def toLF : Nat → Nat → List Int
 | 0,_=>[]
 | f + 1,n=>if n = 0 then [] else ((n % 1000000000 : Nat) : Int) :: toLF f (n / 1000000000)
def toL (n : Nat) : List Int := toLF n n
theorem toLF_ok : ∀ (f n : Nat),n ≤ f → okL (toLF f n) ∧ val (toLF f n) = (n : Int) ∧ trm (toLF f n) = toLF f n
 | 0,n,h=>by
  rw [show n = 0 by omega]
  exact ⟨okL_nil,rfl,rfl⟩
 | f + 1,n,h=>by
  unfold toLF
  split
  ·rename_i q
   subst q
   exact ⟨okL_nil,rfl,rfl⟩
  ·rename_i q
   obtain ⟨h1,h2,h3⟩ := toLF_ok f (n / 1000000000) (by omega)
   refine ⟨okL_cons.2 ⟨by omega,h1⟩,?_,?_⟩
   ·rw [val_cons,h2]; omega
   ·rw [trm,h3,if_neg]
    rintro ⟨q1,q2⟩
    rw [q2] at h2
    simp [val] at h2
    omega
theorem toL_ok (n : Nat) : okL (toL n) := (toLF_ok n n (Nat.le_refl _)).1
theorem toL_val (n : Nat) : val (toL n) = (n : Int) := (toLF_ok n n (Nat.le_refl _)).2.1
theorem toL_trm (n : Nat) : trm (toL n) = toL n := (toLF_ok n n (Nat.le_refl _)).2.2
theorem toL_len {n k : Nat} (h : (n : Int) < pw k) : (toL n).length ≤ k := len_le_of_val (toL_ok n) (toL_trm n) (by rw [toL_val]; exact h)
end Go.Proofs.YthljcnchaopncaaGreatDoor
namespace Go.Proofs.YthljcnchaopncaaGreatDoor
open Go.RowKit
set_option linter.unusedVariables false
set_option linter.unusedSimpArgs false
def ofI (z : Int) : ApiInt := ⟨decide (z < 0),toL z.natAbs⟩
theorem ofI_len {z : Int} {n : Nat} (h : (z.natAbs : Int) < pw n) : (ofI z).Limbs.length ≤ n := toL_len h
end Go.Proofs.YthljcnchaopncaaGreatDoor
