import Derived.Test.YtpdjgamdnjfmkaaDoorTy2
import Derived.Test.YtpdjgamdnjfmkaaDoorMLLexerCovers
namespace Go.Proofs.YtpdjgamdnjfmkaaDoor
open Go.RowKit
set_option linter.unusedVariables false
set_option linter.unusedSimpArgs false
theorem drop_at {α : Type} {l : List α} {i : Nat} {x : α} (h : l[i]? = some x) : l.drop i = x :: l.drop (i + 1) := by
 have hlt := getElem_lt h
 rw [List.drop_eq_getElem_cons hlt]
 congr 1
 exact Option.some.inj ((List.getElem?_eq_getElem hlt).symm.trans h)
theorem lexerCovers_plain (s : List UInt8) (_ : inStr s) : l21_LexerCovers s = some true := by
 unfold l21_LexerCovers
 rw [awake21, bindO_s, if_pos rfl, bindO_s]
 by_cases h1 : (s.length : Int) > 300
 ·rw [decide_eq_true h1]; rfl
 rw [decide_eq_false h1]
 simp only [Bool.false_eq_true, if_false]
 rw [lx_Tokens_eq (by omega), bindO_s]
 have hll := tokL_len s
 by_cases h : (tokL s).e = 0
 ·have hc : cov s 0 (tokL s).l := by
   have := toks_cov (s.length + 1) s 0 (Nat.zero_le _) (by omega)
   rw [List.drop_zero] at this
   exact this h
  have hR : resT tkX [] (tokL s) = ((tokL s).l.map tkX, 0, 0) := by unfold resT; rw [if_pos h]; rfl
  rw [hR]
  generalize (tokL s).l = l at *
  apply Tot.get
  refine Tot.ite (fun q => by cases q) (fun _ => ?_)
  refine Tot.bindX (E := fun v => ∃ a : Nat, v = (a : Int) ∧ a ≤ s.length ∧ cov s a []) (TotX.of (Tot.guard (okIdx_of (by simp; omega)) (Tot.range (fun i (v : Int) => ∃ a : Nat, v = (a : Int) ∧ a ≤ s.length ∧ cov s a (l.drop i)) _ ⟨0, rfl, Nat.zero_le _, hc⟩ (fun i e v hx hr => ?_) (fun v hr => .ok ?_)))) (fun v hv => ?_)
  ·obtain ⟨a, rfl, ha, hca⟩ := hr
   rw [List.getElem?_map] at hx
   cases hxi : l[i]? with
   | none => rw [hxi] at hx; cases hx
   | some x =>
    rw [hxi] at hx
    injection hx with hx
    subst hx
    rw [drop_at hxi] at hca
    obtain ⟨c1, c2, c3, c4, c5, c6⟩ := hca
    have hne : 0 < x.text.length := List.length_pos_iff.2 c3
    have eP : (tkX x).Pos = (x.pos : Int) := rfl
    have eT : (tkX x).Text = x.text := rfl
    rw [eP, eT]
    refine TotX.bindX (E := fun _ => True) (TotX.bind (E := fun b => b = false) ?_ (fun b hb => ?_)) (fun _ _ => .go ⟨x.pos + x.text.length, ?_, c2, c6⟩)
    ·rw [decide_eq_false (by omega), wI64 (n := (s.length : Int) - (x.text.length : Int)) (by omega) (by omega), decide_eq_false (show ¬ ((x.pos : Int) > (s.length : Int) - (x.text.length : Int)) by omega), beq_eq_false_iff_ne.2 (show ((x.text.length : Int)) ≠ 0 by omega), wI64 (by omega) (by omega), show (x.pos : Int) + (x.text.length : Int) = ((x.pos + x.text.length : Nat) : Int) by omega, cutL_at c2, c4]
     refine .ok ?_
     simp
    ·subst hb
     refine TotX.ite (fun q => by cases q) (fun _ => ?_)
     refine TotX.bindX (E := fun _ => True) (TotX.of (Tot.loop (fun m (v : Int) => ∃ k : Nat, v = (k : Int) ∧ a ≤ k ∧ k ≤ x.pos ∧ m = x.pos - k) _ (x.pos - a) (by unfold fuel; omega) ⟨a, rfl, Nat.le_refl _, c1, rfl⟩ (fun m v hr => ?_))) (fun _ _ => .go trivial)
     obtain ⟨k, rfl, k1, k2, k3⟩ := hr
     by_cases z : k < x.pos
     ·have hk := c5 k k1 z
      rw [decide_eq_true (by omega), gt_k hk]
      simp only [if_true, bindO_s]
      refine TotX.ite (fun q => by cases q) (fun _ => .go ⟨x.pos - (k + 1), by omega, k + 1, ?_, by omega, by omega, rfl⟩)
      rw [wI64 (by omega) (by omega)]; omega
     ·rw [decide_eq_false (by omega)]
      exact .ret trivial
    ·rw [wI64 (by omega) (by omega)]; omega
  ·obtain ⟨a, h3, h4, h5⟩ := hr
   rw [List.length_map, List.drop_length] at h5
   exact ⟨a, h3, h4, h5⟩
  ·obtain ⟨a, rfl, ha, m, m1, m2, m3, m4⟩ := hv
   refine Tot.bindX (E := fun _ => True) (TotX.of (Tot.loop (fun n (v : Int) => ∃ k : Nat, v = (k : Int) ∧ a ≤ k ∧ k ≤ m ∧ n = m - k) _ (m - a) (by unfold fuel; omega) ⟨a, rfl, Nat.le_refl _, m1, rfl⟩ (fun n v hr => ?_))) (fun _ _ => .ok rfl)
   obtain ⟨k, rfl, k1, k2, k3⟩ := hr
   by_cases z : k < m
   ·have hk := m3 k k1 z
    have hkl := getElem_lt hk
    rw [decide_eq_true (by omega), gt_k hk]
    simp only [if_true, bindO_s]
    refine TotX.ite (fun q => ?_) (fun q => by cases q)
    refine TotX.ite (fun q => by cases q) (fun _ => .go ⟨m - (k + 1), by omega, k + 1, ?_, by omega, by omega, rfl⟩)
    rw [wI64 (by omega) (by omega)]; omega
   ·have hkm : k = m := by omega
    subst hkm
    rcases m4 with y | y
    ·have := List.getElem?_eq_none_iff.1 y
     rw [decide_eq_false (by omega)]
     exact .ret trivial
    ·have hkl := getElem_lt y
     rw [decide_eq_true (by omega), gt_k y]
     exact .ret trivial
 ·have hR : resT tkX [] (tokL s) = ([], ((tokL s).pos : Int), ((tokL s).e : Int)) := by unfold resT; rw [if_neg h]
  rw [hR, if_pos (by simpa using h)]
  rfl
end Go.Proofs.YtpdjgamdnjfmkaaDoor
