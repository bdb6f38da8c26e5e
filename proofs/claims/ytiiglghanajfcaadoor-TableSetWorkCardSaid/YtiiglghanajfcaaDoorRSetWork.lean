/-
  TableSetWork: what its mirror computes is true.
-/
import Derived.Test.YtiiglghanajfcaaDoorRa
import Derived.Test.YtiiglghanajfcaaDoorMLTableSetWork
namespace Go.Proofs.YtiiglghanajfcaaDoor
open Go.RowKit

theorem tableSetWork_plain (t : R45Table) (c : Int) (p : ApiPos) (_ : inR45Table t) (_ : (inInt .i64) c) (_ : inApiPos p) : l45_TableSetWork t c p = some true := by
  unfold l45_TableSetWork
  rw [awake45, bindO_s, if_pos rfl, bindO_s]
  cases hb : decide ((t.Lengths.length : Int) > 40) with
  | true => rfl
  | false =>
    simp only [Bool.false_eq_true, if_false]
    have hl : (t.Lengths.length : Int) ≤ 40 := by simpa using hb
    obtain ⟨r, h1, h2, h3⟩ := setwork_same t c p (by omega)
    rw [l45_theirs_eq t (by omega), bindO_s, h1, h2, bindO_s, bindO_s]
    simp only [same_true r.1 r.2 h3, own_theirs t (by omega), same_refl t (by omega), bindO_s, if_true]

end Go.Proofs.YtiiglghanajfcaaDoor
