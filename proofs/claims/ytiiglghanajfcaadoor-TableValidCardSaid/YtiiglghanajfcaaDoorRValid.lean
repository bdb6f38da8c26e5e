/-
  TableValid: what its mirror computes is true.
-/
import Derived.Test.YtiiglghanajfcaaDoorRa
import Derived.Test.YtiiglghanajfcaaDoorMLTableValid
namespace Go.Proofs.YtiiglghanajfcaaDoor
open Go.RowKit

theorem tableValid_plain (t : R45Table) (_ : inR45Table t) : l45_TableValid t = some true := by
  unfold l45_TableValid
  rw [awake45, bindO_s, if_pos rfl, bindO_s]
  cases hb : decide ((t.Lengths.length : Int) > 40) with
  | true => rfl
  | false =>
    simp only [Bool.false_eq_true, if_false]
    have hl : (t.Lengths.length : Int) ≤ 40 := by simpa using hb
    rw [l45_theirs_eq t (by omega), bindO_s, valid_same t (by omega)]
    obtain ⟨e, he, _⟩ := r45_Valid_tot t (by omega)
    rw [he, bindO_s, bindO_s, beq_self_eq_true]

end Go.Proofs.YtiiglghanajfcaaDoor
