/-
  Lm, Li in one text.
-/
import Derived.Test.YthljcnchaopncaaGreatDoorPz
import Derived.Test.YthljcnchaopncaaGreatDoorMI
namespace Go.Proofs.YthljcnchaopncaaGreatDoor
open Go.RowKit
def val : List Int → Int
 | []=>0
 | x :: l=>x + 1000000000 * val l
def okL (l : List Int) : Prop := ∀ x ∈ l,0 ≤ x ∧ x < 1000000000
def pw : Nat → Int
 | 0=>1
 | n + 1=>1000000000 * pw n
theorem pw_pos : ∀ n,0 < pw n
 | 0=>by simp [pw]
 | n + 1=>by have := pw_pos n; simp only [pw]; omega
theorem pw_succ (n : Nat) : pw (n + 1) = 1000000000 * pw n := rfl
theorem pw_add (a : Nat) : ∀ b,pw (a + b) = pw a * pw b
 | 0=>by simp [pw]
 | b + 1=>by rw [← Nat.add_assoc,pw_succ,pw_succ,pw_add a b,Int.mul_left_comm]
theorem pw_mono {a b : Nat} (h : a ≤ b) : pw a ≤ pw b := by
 induction b with
 | zero=>rw [show a = 0 by omega]; exact Int.le_refl _
 | succ b ih =>
  rcases Nat.eq_or_lt_of_le h with e | e
  ·rw [e]; exact Int.le_refl _
  ·have := ih (by omega); have := pw_pos b; rw [pw_succ]; omega
theorem val_cons (x : Int) (l : List Int) : val (x :: l) = x + 1000000000 * val l := rfl
theorem val_append : ∀ (a b : List Int),val (a ++ b) = val a + pw a.length * val b
 | [],b=>by simp [val,pw]
 | x :: a,b=>by
  rw [List.cons_append,val_cons,val_cons,val_append a b,List.length_cons,pw_succ]
  grind
theorem okL_nil : okL [] := fun x h=>by simp at h
theorem okL_cons {x : Int} {l : List Int} : okL (x :: l) ↔ (0 ≤ x ∧ x < 1000000000) ∧ okL l := by
 unfold okL; simp
theorem okL_append {a b : List Int} : okL (a ++ b) ↔ okL a ∧ okL b := by
 unfold okL
 constructor
 ·exact fun h=>⟨fun x hx=>h x (by simp [hx]),fun x hx=>h x (by simp [hx])⟩
 ·rintro ⟨h1,h2⟩ x hx
  rcases List.mem_append.1 hx with q | q
  ·exact h1 x q
  ·exact h2 x q
theorem okL_get {l : List Int} {i : Nat} {x : Int} (h : okL l) (hx : l[i]? = some x) : 0 ≤ x ∧ x < 1000000000 := h x (List.mem_of_getElem? hx)
theorem okL_set {l : List Int} {i : Nat} {y : Int} (h : okL l) (h0 : 0 ≤ y) (h1 : y < 1000000000) : okL (l.set i y) := by
 intro x hx
 rcases List.mem_or_eq_of_mem_set hx with q | q
 ·exact h x q
 ·rw [q]; exact ⟨h0,h1⟩
theorem okL_take {l : List Int} (n : Nat) (h : okL l) : okL (l.take n) := fun x hx=>h x (List.mem_of_mem_take hx)
theorem okL_drop {l : List Int} (n : Nat) (h : okL l) : okL (l.drop n) := fun x hx=>h x (List.mem_of_mem_drop hx)
theorem okL_rep (n : Nat) : okL (List.replicate n 0) := fun x hx=>by rw [List.eq_of_mem_replicate hx]; omega
theorem val_rep : ∀ n,val (List.replicate n 0) = 0
 | 0=>rfl
 | n + 1=>by rw [List.replicate_succ,val_cons,val_rep n]; rfl
theorem val_bound : ∀ {l : List Int},okL l → 0 ≤ val l ∧ val l < pw l.length
 | [],_=>by simp [val,pw]
 | x :: l,h=>by
  obtain ⟨h1,h2⟩ := okL_cons.1 h
  have := val_bound h2
  rw [val_cons,List.length_cons,pw_succ]
  omega
theorem val_set : ∀ (l : List Int) (i : Nat) (x y : Int),l[i]? = some x → val (l.set i y) = val l + (y - x) * pw i
 | [],i,x,y,h=>by simp at h
 | z :: l,0,x,y,h=>by
  simp at h; subst h
  simp only [List.set_cons_zero,val_cons,pw]; omega
 | z :: l,i + 1,x,y,h=>by
  simp at h
  rw [List.set_cons_succ,val_cons,val_cons,val_set l i x y h,pw_succ]
  grind
theorem val_take_drop (l : List Int) (n : Nat) (h : n ≤ l.length) : val l = val (l.take n) + pw n * val (l.drop n) := by
 have := val_append (l.take n) (l.drop n)
 rw [List.take_append_drop,List.length_take,Nat.min_eq_left h] at this
 exact this
theorem val_take_one {l : List Int} {i : Nat} {x : Int} (h : l[i]? = some x) : val (l.take (i + 1)) = val (l.take i) + x * pw i := by
 have hl := getElem_lt h
 rw [List.take_add_one,h,val_append,List.length_take,Nat.min_eq_left (by omega)]
 simp only [Option.toList,val]
 grind
theorem val_drop_one {l : List Int} {i : Nat} {x : Int} (h : l[i]? = some x) : val (l.drop i) = x + 1000000000 * val (l.drop (i + 1)) := by
 have : l.drop i = x :: l.drop (i + 1) := by
  have hl := getElem_lt h
  rw [List.drop_eq_getElem_cons hl]
  rw [List.getElem?_eq_getElem hl] at h
  injection h with h
  rw [h]
 rw [this,val_cons]
def trm : List Int → List Int
 | []=>[]
 | x :: l=>if x = 0 ∧ trm l = [] then [] else x :: trm l
theorem val_trm : ∀ l,val (trm l) = val l
 | []=>rfl
 | x :: l=>by
  unfold trm
  split
  ·rename_i h
   rw [val_cons,← val_trm l,h.2,h.1]; rfl
  ·rw [val_cons,val_cons,val_trm l]
theorem okL_trm : ∀ {l : List Int},okL l → okL (trm l)
 | [],_=>okL_nil
 | x :: l,h=>by
  obtain ⟨h1,h2⟩ := okL_cons.1 h
  unfold trm
  split
  ·exact okL_nil
  ·exact okL_cons.2 ⟨h1,okL_trm h2⟩
theorem trm_trm : ∀ l,trm (trm l) = trm l
 | []=>rfl
 | x :: l=>by
  by_cases h : x = 0 ∧ trm l = []
  ·have : trm (x :: l) = [] := by rw [trm,if_pos h]
   rw [this]; rfl
  ·have : trm (x :: l) = x :: trm l := by rw [trm,if_neg h]
   rw [this]
   rw [trm,trm_trm l,if_neg h]
theorem trm_le : ∀ l : List Int,(trm l).length ≤ l.length
 | []=>Nat.le_refl _
 | x :: l=>by
  unfold trm
  have := trm_le l
  split
  ·simp
  ·simp only [List.length_cons]; omega
theorem trm_tail {x : Int} {l : List Int} (h : trm (x :: l) = x :: l) : trm l = l := by
 rw [trm] at h
 split at h
 ·simp at h
 ·injection h
theorem trm_zero : ∀ {l : List Int},okL l → val l = 0 → trm l = []
 | [],_,_=>rfl
 | x :: l,h,hv=>by
  obtain ⟨h1,h2⟩ := okL_cons.1 h
  have hb := val_bound h2
  rw [val_cons] at hv
  rw [trm,if_pos ⟨by omega,trm_zero h2 (by omega)⟩]
theorem val_inj : ∀ {a b : List Int},okL a → okL b → trm a = a → trm b = b → val a = val b → a = b
 | [],b,_,hb,_,tb,h=>by rw [← tb,trm_zero hb (by rw [← h]; rfl)]
 | x :: a,[],ha,_,ta,_,h=>by
  have := trm_zero ha (by rw [h]; rfl)
  rw [ta] at this; simp at this
 | x :: a,y :: b,ha,hb,ta,tb,h=>by
  obtain ⟨h1,h2⟩ := okL_cons.1 ha
  obtain ⟨h3,h4⟩ := okL_cons.1 hb
  rw [val_cons,val_cons] at h
  have hx : x = y := by omega
  rw [hx,val_inj h2 h4 (trm_tail ta) (trm_tail tb) (by omega)]
theorem trm_last : ∀ {l : List Int} {x : Int},l.getLast? = some x → x ≠ 0 → trm l = l
 | [],x,h,_=>by simp at h
 | [y],x,h,h0=>by
  simp at h; subst h
  simp [trm,h0]
 | y :: z :: l,x,h,h0=>by
  rw [List.getLast?_cons_cons] at h
  have := trm_last h h0
  rw [trm,this,if_neg (by simp)]
theorem trm_snoc0 : ∀ (l : List Int),trm (l ++ [0]) = trm l
 | []=>by simp [trm]
 | x :: l=>by rw [List.cons_append,trm,trm,trm_snoc0 l]
theorem last_trm : ∀ {l : List Int} {x : Int},trm l = l → l.getLast? = some x → x ≠ 0
 | [],x,_,h=>by simp at h
 | [y],x,t,h=>by
  simp at h; subst h
  intro q
  simp [trm,q] at t
 | y :: z :: l,x,t,h=>by
  rw [List.getLast?_cons_cons] at h
  exact last_trm (trm_tail t) h
theorem pw_le_val {l : List Int} {n : Nat} (ho : okL l) (ht : trm l = l) (hn : l.length = n + 1) : pw n ≤ val l := by
 have hl : l[n]? = some l[n] := List.getElem?_eq_getElem (by omega)
 have hx : l.getLast? = some l[n] := by
  rw [List.getLast?_eq_getElem?,show l.length - 1 = n by omega]; exact hl
 have h0 := last_trm ht hx
 have hb := okL_get ho hl
 have h1 := val_take_drop l n (by omega)
 have h2 := (val_bound (okL_take n ho)).1
 have h3 := (val_bound (okL_drop (n + 1) ho)).1
 rw [val_drop_one hl] at h1
 have h4 : pw n * 1 ≤ pw n * (l[n] + 1000000000 * val (l.drop (n + 1))) := Int.mul_le_mul_of_nonneg_left (by omega) (Int.le_of_lt (pw_pos n))
 omega
theorem val_lt_of_len {a b : List Int} (ha : okL a) (hb : okL b) (tb : trm b = b) (h : a.length < b.length) : val a < val b := by
 have h1 := val_bound ha
 have h2 := pw_le_val (n := b.length - 1) hb tb (by omega)
 have h3 := pw_mono (a := a.length) (b := b.length - 1) (by omega)
 omega
theorem len_le_of_val {a : List Int} {n : Nat} (ha : okL a) (ta : trm a = a) (h : val a < pw n) : a.length ≤ n := by
 rcases Nat.lt_or_ge n a.length with q | q
 ·have h2 := pw_le_val (n := a.length - 1) ha ta (by omega)
  have h3 := pw_mono (a := n) (b := a.length - 1) (by omega)
  omega
 ·exact q
theorem val_cmp_at {a b : List Int} {i : Nat} {x y : Int} (ha : okL a) (hb : okL b) (hx : a[i]? = some x) (hy : b[i]? = some y) (he : a.drop (i + 1) = b.drop (i + 1)) (h : x < y) : val a < val b := by
 have la := getElem_lt hx; have lb := getElem_lt hy
 rw [val_take_drop a i (by omega),val_take_drop b i (by omega),val_drop_one hx,val_drop_one hy,he]
 have h1 := val_bound (okL_take i ha)
 have h2 := val_bound (okL_take i hb)
 rw [List.length_take,Nat.min_eq_left (by omega)] at h1 h2
 have h3 : pw i * (x + 1 + 1000000000 * val (b.drop (i + 1))) ≤ pw i * (y + 1000000000 * val (b.drop (i + 1))) := Int.mul_le_mul_of_nonneg_left (by omega) (Int.le_of_lt (pw_pos i))
 have h4 : pw i * (x + 1 + 1000000000 * val (b.drop (i + 1))) = pw i * (x + 1000000000 * val (b.drop (i + 1))) + pw i := by grind
 omega
def toLF : Nat → Nat → List Int
 | 0,_=>[]
 | f + 1,n=>if n = 0 then [] else ((n % 1000000000 : Nat) : Int) :: toLF f (n / 1000000000)
def toL (n : Nat) : List Int := toLF n n
theorem toLF_ok : ∀ (f n : Nat),n ≤ f → okL (toLF f n) ∧ val (toLF f n) = (n : Int) ∧ trm (toLF f n) = toLF f n
 | 0,n,h=>by
  rw [show n = 0 by omega]
  exact ⟨okL_nil,rfl,rfl⟩
 | f + 1,n,h=>by
  unfold toLF
  split
  ·rename_i q
   subst q
   exact ⟨okL_nil,rfl,rfl⟩
  ·rename_i q
   obtain ⟨h1,h2,h3⟩ := toLF_ok f (n / 1000000000) (by omega)
   refine ⟨okL_cons.2 ⟨by omega,h1⟩,?_,?_⟩
   ·rw [val_cons,h2]; omega
   ·rw [trm,h3,if_neg]
    rintro ⟨q1,q2⟩
    rw [q2] at h2
    simp [val] at h2
    omega
theorem toL_ok (n : Nat) : okL (toL n) := (toLF_ok n n (Nat.le_refl _)).1
theorem toL_val (n : Nat) : val (toL n) = (n : Int) := (toLF_ok n n (Nat.le_refl _)).2.1
theorem toL_trm (n : Nat) : trm (toL n) = toL n := (toLF_ok n n (Nat.le_refl _)).2.2
theorem toL_of {l : List Int} (h : okL l) (ht : trm l = l) : l = toL (val l).toNat := by
 refine val_inj h (toL_ok _) ht (toL_trm _) ?_
 rw [toL_val]
 have := (val_bound h).1
 omega
theorem trm_toL {l : List Int} (h : okL l) : trm l = toL (val l).toNat := by
 have := toL_of (okL_trm h) (trm_trm l)
 rwa [val_trm] at this
theorem toL_zero : toL 0 = [] := rfl
theorem toL_nil {n : Nat} : toL n = [] ↔ n = 0 := by
 constructor
 ·intro h
  have := toL_val n
  rw [h] at this
  simp [val] at this
  omega
 ·rintro rfl; rfl
theorem toL_len {n k : Nat} (h : (n : Int) < pw k) : (toL n).length ≤ k := len_le_of_val (toL_ok n) (toL_trm n) (by rw [toL_val]; exact h)
end Go.Proofs.YthljcnchaopncaaGreatDoor
namespace Go.Proofs.YthljcnchaopncaaGreatDoor
open Go.RowKit
set_option linter.unusedVariables false
set_option linter.unusedSimpArgs false
def ofI (z : Int) : ApiInt := ⟨decide (z < 0),toL z.natAbs⟩
theorem signed_eq {neg : Bool} {l : List Int} (h : okL l) : (⟨neg && decide (trm l ≠ []),trm l⟩ : ApiInt) = ofI (if neg = true then -val l else val l) := by
 have hb := (val_bound h).1
 rcases (show 0 = val l ∨ 0 < val l by omega) with q | q
 ·rw [trm_zero h q.symm,← q]
  cases neg <;> rfl
 ·have h0 : trm l ≠ [] := fun z=>by
   have := val_trm l
   rw [z] at this
   simp [val] at this
   omega
  rw [decide_eq_true h0,Bool.and_true,trm_toL h]
  unfold ofI
  cases neg with
  | true =>
   simp only [if_true]
   rw [decide_eq_true (show -val l < 0 by omega),show (-val l).natAbs = (val l).toNat by omega]
  | false =>
   simp only [Bool.false_eq_true,if_false]
   rw [decide_eq_false (show ¬ val l < 0 by omega),show (val l).natAbs = (val l).toNat by omega]
theorem ofI_len {z : Int} {n : Nat} (h : (z.natAbs : Int) < pw n) : (ofI z).Limbs.length ≤ n := toL_len h
theorem ofI_nil {z : Int} : (ofI z).Limbs = [] ↔ z = 0 := by
 show toL z.natAbs = [] ↔ _
 rw [toL_nil]; omega
theorem ofI_val (z : Int) : val (ofI z).Limbs = (z.natAbs : Int) := toL_val _
theorem ofI_okL (z : Int) : okL (ofI z).Limbs := toL_ok _
theorem ofI_trm (z : Int) : trm (ofI z).Limbs = (ofI z).Limbs := toL_trm _
end Go.Proofs.YthljcnchaopncaaGreatDoor
