/-
  BlockSeek: what its mirror computes is true.
-/
import Derived.Test.YtijihbegfmkceaaDoorBa
import Derived.Test.YtijihbegfmkceaaDoorMLBlockSeek
namespace Go.Proofs.YtijihbegfmkceaaDoor
open Go.RowKit

theorem blockSeek_plain (l : List ApiBlock) (n : Int) (_ : (inList inApiBlock) l) (_ : (inInt .i64) n) : l41_BlockSeek l n = some true := by
  unfold l41_BlockSeek
  obtain ⟨b, hb, hf⟩ := r41_Few_tot l 30 (by omega)
  simp only [awake41, bindO_s, if_true, hb]
  cases b with
  | false => rfl
  | true =>
    obtain ⟨r, h1, h2⟩ := seek_same l n (hf rfl)
    simp only [Bool.not_true, Bool.false_eq_true, if_false, h1, h2, bindO_s, beq_self_eq_true, Bool.and_self]

end Go.Proofs.YtijihbegfmkceaaDoor
