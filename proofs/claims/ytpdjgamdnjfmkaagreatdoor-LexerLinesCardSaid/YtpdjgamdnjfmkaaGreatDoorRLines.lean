import Derived.Test.YtpdjgamdnjfmkaaGreatDoorTy2
import Derived.Test.YtpdjgamdnjfmkaaGreatDoorMLLexerLines
namespace Go.Proofs.YtpdjgamdnjfmkaaGreatDoor
open Go.RowKit
set_option linter.unusedVariables false
theorem lnsT_facts : ∀ (ps : List (List UInt8)) (i : Nat), (lnsT ps i).l.length ≤ ps.length ∧ ∀ x ∈ (lnsT ps i).l, ∃ p ∈ ps, x.l = (tokL p).l
 | [], _ => ⟨Nat.le_refl _, by simp [lnsT]⟩
 | p :: ps, i => by
  obtain ⟨h1, h2⟩ := lnsT_facts ps (i + 1)
  unfold lnsT
  by_cases h : (tokL p).e = 0
  ·rw [if_pos h]
   split
   ·refine ⟨?_, fun x hx => ?_⟩
    ·split <;> simp <;> omega
    ·rcases List.mem_append.1 hx with y | y
     ·split at y
      ·simp at y
      ·have e : x = ⟨i, (tokL p).l⟩ := by simpa using y
       exact ⟨p, by simp, by rw [e]⟩
     ·obtain ⟨q, q1, q2⟩ := h2 x y
      exact ⟨q, by simp [q1], q2⟩
   ·refine ⟨by simp; omega, fun x hx => ?_⟩
    obtain ⟨q, q1, q2⟩ := h2 x hx
    exact ⟨q, by simp [q1], q2⟩
  ·rw [if_neg h]
   exact ⟨Nat.zero_le _, by simp⟩
theorem lexerLines_plain (s : List UInt8) (_ : inStr s) : l21_LexerLines s = some true := by
 unfold l21_LexerLines
 rw [awake21, bindO_s, if_pos rfl, bindO_s]
 by_cases h1 : (s.length : Int) > 600
 ·rw [decide_eq_true h1]; rfl
 rw [decide_eq_false h1]
 simp only [Bool.false_eq_true, if_false]
 rw [lx_Lines_eq (by omega), bindO_s, r21_Lines_eq (by omega), bindO_s]
 obtain ⟨f1, f2⟩ := lnsT_facts (pcs s) 1
 have f3 := pcs_len s
 have f4 : ∀ x ∈ (lnsT (pcs s) 1).l, x.l.length ≤ 600 := by
  intro x hx
  obtain ⟨p, p1, p2⟩ := f2 x hx
  have := pcs_mem p1
  have := tokL_len p
  rw [p2]; omega
 generalize lnsT (pcs s) 1 = S at *
 apply Tot.get
 unfold resL
 by_cases h : S.e = 0
 ·rw [if_pos h, if_pos h]
  simp only [List.nil_append]
  refine Tot.ite (fun q => by simp at q) (fun _ => ?_)
  refine Tot.bindX (E := fun _ => True) (TotX.of (Tot.guard (okIdx_of (by simp; omega)) (Tot.range (fun _ _ => True) _ trivial (fun i e v hx _ => ?_) (fun v _ => .ok trivial)))) (fun _ _ => .ok rfl)
  rw [List.getElem?_map] at hx
  cases hxi : S.l[i]? with
  | none => rw [hxi] at hx; cases hx
  | some x =>
   rw [hxi] at hx
   injection hx with hx
   subst hx
   have hg : gt (S.l.map lnR) (i : Int) = some (lnR x) := gt_k (by rw [List.getElem?_map, hxi]; rfl)
   have h6 := f4 x (List.mem_of_getElem? hxi)
   have e1 : (lnX x).Tokens = x.l.map tkX := rfl
   have e2 : (lnR x).Tokens = x.l.map tkR := rfl
   have e3 : ((lnX x).Number != (lnR x).Number) = false := by
    show ((x.num : Int) != (x.num : Int)) = false
    simp
   rw [hg, bindO_s, e1, e2, e3, l21_own_eq (by simp; omega), bindO_s, own_tkX, r21_Same_refl (by simp; omega)]
   exact .go trivial
 ·rw [if_neg h, if_neg h]
  refine Tot.ite (fun q => by simp at q) (fun _ => .ok rfl)
end Go.Proofs.YtpdjgamdnjfmkaaGreatDoor
