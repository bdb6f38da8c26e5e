import Derived.Test.YtpdjgamdnjfmkaaGreatDoorTms
import Derived.Test.YtpdjgamdnjfmkaaGreatDoorMLLexerValues
namespace Go.Proofs.YtpdjgamdnjfmkaaGreatDoor
open Go.RowKit
theorem lenT_same {k : Int} {s : List UInt8} (hl : s.length ≤ 1000) (h : (lenT k s).2 = true) : r02_Same (lenT k s).1 (lenT k s).1 = some true := by
 unfold lenT at *
 by_cases hp : (k == 2 && prsB s) = true
 ·rw [if_pos hp]
  have := (Bool.and_eq_true_iff.1 hp).2
  rw [r02_Same_eq ((prsQ_BQ this).mul BQ_thousand) (by omega), decide_eq_true rfl]
 ·rw [if_neg hp] at h; cases h
theorem lexerValues_plain (k : Int) (s : List UInt8) (_ : inInt .i64 k) (_ : inStr s) : l21_LexerValues k s = some true := by
 unfold l21_LexerValues
 rw [awake21, bindO_s, if_pos rfl, bindO_s]
 by_cases h1 : (s.length : Int) > 60
 ·rw [decide_eq_true h1]; rfl
 rw [decide_eq_false h1]
 simp only [Bool.false_eq_true, if_false]
 rw [lx_Integer_eq (by omega), bindO_s, r21_Integer_eq (by omega), bindO_s, lx_Length_eq (by omega), bindO_s, r21_Length_eq (by omega), bindO_s, lx_Shape_eq (by simp), bindO_s, r21_Shape_eq (by simp), bindO_s]
 have hs := lenT_same (k := k) (s := s) (by omega)
 generalize lenT k s = L at *
 simp only [beq_self_eq_true, if_true]
 cases hL : L.2 with
 | false => simp
 | true => rw [hs hL, bindO_s]; simp
end Go.Proofs.YtpdjgamdnjfmkaaGreatDoor
