import Derived.Test.YtpdjgamdnjfmkaaDoorTy2
import Derived.Test.YtpdjgamdnjfmkaaDoorMLLexerComment
namespace Go.Proofs.YtpdjgamdnjfmkaaDoor
open Go.RowKit
theorem lexerComment_plain (s c : List UInt8) (_ : inStr s) (_ : inStr c) : l21_LexerComment s c = some true := by
 unfold l21_LexerComment
 rw [awake21, bindO_s, if_pos rfl]
 by_cases h1 : (s.length : Int) > 300
 ·rw [decide_eq_true h1]; rfl
 rw [decide_eq_false h1]
 by_cases h2 : (c.length : Int) > 100
 ·rw [decide_eq_true h2]; rfl
 rw [decide_eq_false h2]
 simp only [Bool.false_eq_true, if_false, bindO_s]
 rw [okStr_of (by simp; omega), okStr_of (by simp; omega)]
 simp only [guardO_t]
 have e : tokL ((s ++ [35]) ++ c) = tokL (s ++ [35]) := by
  unfold tokL
  rw [toks_fuel _ (s.length + c.length + 2) (s ++ [35] ++ c) 0 (by omega) (by simp; omega), toks_fuel _ (s.length + c.length + 2) (s ++ [35]) 0 (by omega) (by simp; omega), List.append_assoc]
  exact toks_comment _ s c [] 0
 have hlen : (resT tkX [] (tokL (s ++ [35]))).1.length ≤ 301 := by
  have h3 := resT_len (f := tkX) (S := tokL (s ++ [35]))
  have h4 := tokL_len (s ++ [35])
  simp at h4; omega
 rw [lx_Tokens_eq (by simp; omega), bindO_s, lx_Tokens_eq (by simp; omega), bindO_s, e]
 generalize resT tkX [] (tokL (s ++ [35])) = R at *
 rw [l21_own_eq (by omega), bindO_s, bindO_s, r21_Same_refl (by simp; omega)]
 simp
end Go.Proofs.YtpdjgamdnjfmkaaDoor
