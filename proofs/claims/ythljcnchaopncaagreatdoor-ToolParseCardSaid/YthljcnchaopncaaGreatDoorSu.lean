import Derived.Test.YthljcnchaopncaaGreatDoorSt
namespace Go.Proofs.YthljcnchaopncaaGreatDoor
open Go.RowKit
set_option linter.unusedVariables false
set_option linter.unusedSimpArgs false
def full (n i : Nat) : Array Bool := ((List.range n).map fun j=>decide (j < i)).toArray
theorem full_size (n i : Nat) : (full n i).size = n := by simp [full]
theorem full_at {n i j : Nat} (d : Bool) (h : j < n) : (full n i).getD j d = decide (j < i) := by
 rw [Array.getD_eq_getD_getElem?]
 unfold full
 rw [List.getElem?_toArray,List.getElem?_map,List.getElem?_range h]
 rfl
theorem full_set {n i : Nat} (h : i < n) : (full n i).setIfInBounds i true = full n (i + 1) := by
 apply Array.ext
 ·simp [full_size]
 ·intro j h1 h2
  have hj : j < n := by simpa [full_size] using h2
  have e1 := full_at (i := i + 1) false hj
  rw [Array.getD_eq_getD_getElem?,Array.getElem?_eq_getElem h2] at e1
  simp only [Option.getD_some] at e1
  rw [e1]
  have e2 := getD_set (full n i) i j (by rw [full_size]; exact h)
  rw [Array.getD_eq_getD_getElem?,Array.getElem?_eq_getElem h1] at e2
  simp only [Option.getD_some] at e2
  rw [e2,full_at false hj]
  by_cases e : j = i
  ·subst e; simp
  ·rw [if_neg e]
   by_cases q : j < i
   ·simp [q]; omega
   ·simp [q]; omega
theorem wpOp_of {P : Program} {Q Q' : Exit → Act → World → Prop} {o : Oper} {K K' : Act → World → Prop} {a : Act} {w : World} (hQ' : ∀ e a w,e ≠ .normal → ¬ Q' e a w) (hK : ∀ a w,K' a w → K a w) (h : o.wp P a w K' Q' ∨ (o.asks P a w ∧ LetsOut Q')) : o.wp P a w K Q ∨ (o.asks P a w ∧ LetsOut Q) := by
 have hno : ¬ LetsOut Q' := fun ⟨a,w,q⟩=>hQ' _ a w (by simp) q
 rcases h with h | ⟨_,h⟩
 ·left
  unfold Oper.wp at *
  generalize (execOp a.eval o).run P w = r at *
  cases r with
  | ok n w' =>
   cases n with
   | value v=>exact hK _ _ h
   | skip=>exact hK _ _ h
   | defer d=>exact hK _ _ h
   | enter f args =>
    simp only [Oper.upon] at h ⊢
    refine Calls.mono h fun e w'' he=>?_
    cases e with
    | returned v=>exact hK _ _ he
    | panicked chain=>exact absurd he (hQ' _ _ _ (by simp))
    | outgrown=>exact absurd he hno
   | row row args =>
    simp only [Oper.upon] at h ⊢
    exact Rows.mono h fun v w'' he=>hK _ _ he
   | _=>first | (simp [Oper.upon] at h; done) | simpa [Oper.upon] using h
  | halt x w' =>
   cases x <;> simp only [Oper.upon] at h ⊢ <;> first | exact h | exact absurd h (hQ' _ _ _ (by simp))
 ·exact absurd h hno
section
variable {P : Program} {ops : Array Oper} {Q : Exit → Act → World → Prop} {m : Nat}
end
end Go.Proofs.YthljcnchaopncaaGreatDoor
