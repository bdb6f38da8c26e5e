import Derived.Test.YtpdjgamdnjfmkaaDoorTy2
import Derived.Test.YtpdjgamdnjfmkaaDoorMLLexerName
namespace Go.Proofs.YtpdjgamdnjfmkaaDoor
open Go.RowKit
theorem lexerName_plain (s : List UInt8) (_ : inStr s) : l21_LexerName s = some true := by
 unfold l21_LexerName
 rw [awake21, bindO_s, if_pos rfl, bindO_s]
 by_cases h1 : (s.length : Int) > 100
 ·rw [decide_eq_true h1]; rfl
 rw [decide_eq_false h1]
 simp only [Bool.false_eq_true, if_false]
 rw [r21_IsName_eq (by omega), bindO_s, lx_Tokens_eq (by omega), bindO_s, lx_IsName_eq (by omega), bindO_s]
 cases h : nameB s with
 | false => rfl
 | true =>
  have hp : 0 < s.length := by
   cases s with
   | nil => cases h
   | cons c r => simp
  have e : tokL s = ⟨[⟨1, 0, s⟩], 0, 0⟩ := by
   unfold tokL
   rw [toks_fuel _ (s.length + 2) s 0 (by omega) (by omega), toks_name h]
  rw [e]
  have e0 : gt [LexerToken.mk 1 0 s] 0 = some (LexerToken.mk 1 0 s) := rfl
  simp [resT, tkX, e0]
end Go.Proofs.YtpdjgamdnjfmkaaDoor
