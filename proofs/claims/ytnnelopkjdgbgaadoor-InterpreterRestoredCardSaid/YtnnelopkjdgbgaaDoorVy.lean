/-
  Vd, Vf, Vg, Vi in one text.
-/
import Derived.Test.YtnnelopkjdgbgaaDoorVx
import Derived.Test.YtnnelopkjdgbgaaDoorQx
namespace Go.Proofs.YtnnelopkjdgbgaaDoor
open Go.RowKit
set_option linter.unusedVariables false
set_option linter.unusedSimpArgs false
def prn (c : UInt8) : Bool := decide ((c.toNat : Int) ≥ 32) && (decide ((c.toNat : Int) ≤ 126) && (((c.toNat : Int) != 40) && ((c.toNat : Int) != 41)))
def okW (w : ApiWord) : Prop := 65 ≤ w.Letter ∧ w.Letter ≤ 90 ∧ -1000000000000 ≤ w.Value ∧ w.Value ≤ 1000000000000
def validP (b : ApiBlock) : Prop := b.Words.length ≤ 16 ∧ b.Comment.length ≤ 100 ∧ (∀ w ∈ b.Words,okW w) ∧ ∀ c ∈ b.Comment,prn c = true
theorem bk_Valid_vp (b : ApiBlock) (h1 : b.Words.length ≤ 1000) (h2 : b.Comment.length ≤ 1000) : Tot (bk_Valid b) (fun e=>(e = 0 ∧ validP b) ∨ (e = 1 ∧ ¬ validP b)) := by
 unfold bk_Valid
 have hsz : (decide ((b.Words.length : Int) > 16) || decide ((b.Comment.length : Int) > 100)) = decide (¬ (b.Words.length ≤ 16 ∧ b.Comment.length ≤ 100)) := by
  rw [Bool.eq_iff_iff]; simp only [Bool.or_eq_true,decide_eq_true_eq]; omega
 rw [hsz]
 refine Tot.ite (fun h=>.ok (.inr ⟨rfl,fun q=>of_decide_eq_true h ⟨q.1,q.2.1⟩⟩)) (fun h=>?_)
 have hle : b.Words.length ≤ 16 ∧ b.Comment.length ≤ 100 := by simpa using h
 refine Tot.bindX (E := fun _=>∀ w ∈ b.Words,okW w) (TotX.of (Tot.mono (E := fun x=>(x = .ret 1 ∧ ¬ validP b) ∨ (x = .go () ∧ ∀ w ∈ b.Words,okW w)) ?_ ?_)) (fun x hx=>?_)
 ·refine Tot.guard (okIdx_of (by omega)) (Tot.range (fun i _=>∀ (k : Nat) w,k < i → b.Words[k]? = some w → okW w) _ (fun k w q=>by omega) (fun i x v hx hr=>?_) (fun v hr=>.ok (.inr ⟨rfl,fun w hw=>?_⟩)))
  ·have hc : (decide (x.Letter < 65) || (decide (x.Letter > 90) || (decide (x.Value > 1000000000000) || decide (x.Value < -1000000000000)))) = decide (¬ (65 ≤ x.Letter ∧ x.Letter ≤ 90 ∧ -1000000000000 ≤ x.Value ∧ x.Value ≤ 1000000000000)) := by
    rw [Bool.eq_iff_iff]; simp only [Bool.or_eq_true,decide_eq_true_eq]; omega
   rw [hc]
   refine TotX.ite (fun h2=>.ret (.inl ⟨rfl,fun q=>of_decide_eq_true h2 (q.2.2.1 x (List.mem_of_getElem? hx))⟩)) (fun h2=>.go (fun k w hk hw=>?_))
   rcases Nat.lt_or_ge k i with q | q
   ·exact hr k w q hw
   ·obtain rfl : k = i := by omega
    rw [hx] at hw; injection hw with hw; subst hw
    have h3 : 65 ≤ x.Letter ∧ x.Letter ≤ 90 ∧ -1000000000000 ≤ x.Value ∧ x.Value ≤ 1000000000000 := Decidable.not_not.1 (of_decide_eq_false h2)
    exact h3
  ·obtain ⟨k,hk⟩ := List.mem_iff_getElem?.1 hw
   exact hr k w (getElem_lt hk) hk
 ·rintro x (⟨rfl,h3⟩ | ⟨rfl,h3⟩)
  ·exact .inr ⟨rfl,h3⟩
  ·exact h3
 ·refine Tot.bindX (E := fun _=>validP b) (TotX.of (Tot.mono (E := fun x=>(x = .ret 1 ∧ ¬ validP b) ∨ (x = .go () ∧ validP b)) ?_ ?_)) (fun _ hv=>.ok (.inl ⟨rfl,hv⟩))
  ·refine Tot.guard (okIdx_of (by simp [bytesI]; omega)) (Tot.range (fun i _=>∀ (k : Nat) c,k < i → b.Comment[k]? = some c → prn c = true) _ (fun k w q=>by omega) (fun i y v hy hr=>?_) (fun v hr=>.ok (.inr ⟨rfl,hle.1,hle.2,hx,fun c hc=>?_⟩)))
   ·unfold bytesI at hy
    rw [List.getElem?_map] at hy
    cases hq : b.Comment[i]? with
    | none=>rw [hq] at hy; cases hy
    | some c =>
     rw [hq] at hy; injection hy with hy; subst hy
     have hp : bk_printable (c.toNat : Int) = some (prn c) := rfl
     rw [hp,bindO_s]
     refine TotX.ite (fun h2=>.ret (.inl ⟨rfl,fun q=>?_⟩)) (fun h2=>.go (fun k w hk hw=>?_))
     ·have := q.2.2.2 c (List.mem_of_getElem? hq)
      rw [this] at h2; cases h2
     ·rcases Nat.lt_or_ge k i with q | q
      ·exact hr k w q hw
      ·obtain rfl : k = i := by omega
       rw [hq] at hw; injection hw with hw; subst hw
       simpa using h2
   ·obtain ⟨k,hk⟩ := List.mem_iff_getElem?.1 hc
    exact hr k c (by have := getElem_lt hk; simpa [bytesI] using this) hk
  ·rintro x (⟨rfl,h3⟩ | ⟨rfl,h3⟩)
   ·exact .inr ⟨rfl,h3⟩
   ·exact h3
theorem findW_mem {b : ApiBlock} {c : Int} (h : (findW b c).2 = true) : ∃ w ∈ b.Words,w.Letter = c ∧ w.Value = (findW b c).1 := by
 unfold findW at *
 cases hf : b.Words.find? (fun w=>w.Letter == c) with
 | none=>rw [hf] at h; cases h
 | some w =>
  have h1 := List.find?_some hf
  exact ⟨w,List.mem_of_find?_eq_some hf,by simpa using h1,rfl⟩
theorem findW_bd {b : ApiBlock} (hv : validP b) (c : Int) : -1000000000000 ≤ (findW b c).1 ∧ (findW b c).1 ≤ 1000000000000 := by
 cases h : (findW b c).2 with
 | true =>
  obtain ⟨w,hw,_,h2⟩ := findW_mem h
  have := hv.2.2.1 w hw
  unfold okW at this
  omega
 | false =>
  have : (findW b c).1 = 0 := by
   unfold findW at *
   cases hf : b.Words.find? (fun w=>w.Letter == c) with
   | none=>rfl
   | some w=>rw [hf] at h; cases h
  omega
end Go.Proofs.YtnnelopkjdgbgaaDoor
namespace Go.Proofs.YtnnelopkjdgbgaaDoor
open Go.RowKit
set_option linter.unusedVariables false
set_option linter.unusedSimpArgs false
end Go.Proofs.YtnnelopkjdgbgaaDoor
namespace Go.Proofs.YtnnelopkjdgbgaaDoor
open Go.RowKit
set_option linter.unusedVariables false
set_option linter.unusedSimpArgs false
end Go.Proofs.YtnnelopkjdgbgaaDoor
namespace Go.Proofs.YtnnelopkjdgbgaaDoor
open Go.RowKit
set_option linter.unusedVariables false
set_option linter.unusedSimpArgs false
end Go.Proofs.YtnnelopkjdgbgaaDoor
