/-
  BlockWords: what its mirror computes is true.
-/
import Derived.Test.YtijihbegfmkceaaDoorBa
import Derived.Test.YtijihbegfmkceaaDoorMLBlockWords
namespace Go.Proofs.YtijihbegfmkceaaDoor
open Go.RowKit

theorem blockWords_plain (a b : ApiBlock) (c : Int) (_ : inApiBlock a) (_ : inApiBlock b) (_ : (inInt .u8) c) : l41_BlockWords a b c = some true := by
  unfold l41_BlockWords
  obtain ⟨q, hq, hf⟩ := r41_Few_tot [a, b] 2 (by omega)
  simp only [awake41, bindO_s, if_true, hq]
  cases q with
  | false => rfl
  | true =>
    have ha := ((hf rfl).2 a (by simp)).1
    have hc := codesV_len a.Words c
    simp only [Bool.not_true, Bool.false_eq_true, if_false, bk_Find_eq a c (by omega), r41_Find_eq a c (by omega), bk_Codes_same, r41_Codes_eq a c (by omega), ints_refl (codesV a.Words c) (by omega), ← equal_same, equal_eq a b (by omega), equal_eq a a (by omega), bindO_s, beq_self_eq_true, if_true, decide_true]

end Go.Proofs.YtijihbegfmkceaaDoor
