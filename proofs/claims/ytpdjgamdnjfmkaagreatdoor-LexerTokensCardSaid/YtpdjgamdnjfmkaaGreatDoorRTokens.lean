import Derived.Test.YtpdjgamdnjfmkaaGreatDoorTy2
import Derived.Test.YtpdjgamdnjfmkaaGreatDoorMLLexerTokens
namespace Go.Proofs.YtpdjgamdnjfmkaaGreatDoor
open Go.RowKit
theorem lexerTokens_plain (s : List UInt8) (_ : inStr s) : l21_LexerTokens s = some true := by
 unfold l21_LexerTokens
 rw [awake21, bindO_s, if_pos rfl, bindO_s]
 by_cases h1 : (s.length : Int) > 300
 ·rw [decide_eq_true h1]; rfl
 rw [decide_eq_false h1]
 simp only [Bool.false_eq_true, if_false]
 rw [lx_Tokens_eq (by omega), bindO_s, r21_Tokens_eq (by omega), bindO_s]
 have hll := tokL_len s
 generalize tokL s = S at *
 unfold resT
 by_cases h : S.e = 0
 ·rw [if_pos h, if_pos h]
  simp only [List.nil_append, beq_self_eq_true, if_true]
  rw [l21_own_eq (by simp; omega), bindO_s, own_tkX, r21_Same_refl (by simp; omega)]
  rfl
 ·rw [if_neg h, if_neg h]
  simp only [beq_self_eq_true, if_true]
  rw [l21_own_eq (by simp), bindO_s]
  rfl
end Go.Proofs.YtpdjgamdnjfmkaaGreatDoor
