/-
  TableMachine: what its mirror computes is true.
-/
import Derived.Test.YtiiglghanajfcaaDoorRa
import Derived.Test.YtiiglghanajfcaaDoorMLTableMachine
namespace Go.Proofs.YtiiglghanajfcaaDoor
open Go.RowKit

theorem tableMachine_plain (t : R45Table) (a : Arr2I64) (p : ApiPos) (_ : inR45Table t) (_ : inArr2I64 a) (_ : inApiPos p) : l45_TableMachine t a p = some true := by
  unfold l45_TableMachine
  rw [awake45, bindO_s, if_pos rfl, bindO_s]
  cases hb : decide ((t.Lengths.length : Int) > 40) with
  | true => rfl
  | false =>
    simp only [Bool.false_eq_true, if_false]
    have hl : (t.Lengths.length : Int) ≤ 40 := by simpa using hb
    obtain ⟨m, hm, _⟩ := tb_Machine_tot (theirsW t) a.e0 a.e1 p (by simp [theirsW]; omega)
    obtain ⟨k, hk, _⟩ := tb_Work_tot (theirsW t) a.e0 a.e1 p (by simp [theirsW]; omega)
    simp only [l45_theirs_eq t (by omega), bindO_s, ← machine_same t a.e0 a.e1 p (by omega), ← work_same t a.e0 a.e1 p (by omega), hm, hk, beq_self_eq_true, Bool.and_self]

end Go.Proofs.YtiiglghanajfcaaDoor
