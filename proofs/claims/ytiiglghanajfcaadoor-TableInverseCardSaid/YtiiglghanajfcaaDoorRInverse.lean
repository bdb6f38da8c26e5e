/-
  TableInverse: what its mirror computes is true.
-/
import Derived.Test.YtiiglghanajfcaaDoorRa
import Derived.Test.YtiiglghanajfcaaDoorMLTableInverse
namespace Go.Proofs.YtiiglghanajfcaaDoor
open Go.RowKit

theorem tableInverse_plain (t : R45Table) (a : Arr2I64) (p : ApiPos) (_ : inR45Table t) (_ : inArr2I64 a) (_ : inApiPos p) : l45_TableInverse t a p = some true := by
  unfold l45_TableInverse
  rw [awake45, bindO_s, if_pos rfl, bindO_s]
  cases hb : decide ((t.Lengths.length : Int) > 40) with
  | true => rfl
  | false =>
    simp only [Bool.false_eq_true, if_false]
    have hl : (t.Lengths.length : Int) ≤ 40 := by simpa using hb
    have hT : (theirsW t).Lengths.length ≤ 1000 := by simp [theirsW]; omega
    obtain ⟨m, hm, _⟩ := tb_Machine_tot (theirsW t) a.e0 a.e1 p hT
    obtain ⟨k, hk, _⟩ := tb_Work_tot (theirsW t) a.e0 a.e1 p hT
    rw [l45_theirs_eq t (by omega), bindO_s, hm, bindO_s, hk]
    obtain ⟨m1, m2⟩ := m
    obtain ⟨k1, k2⟩ := k
    have e1 : (if (m2 == 0) = true then bindO (tb_Work (theirsW t) a.e0 a.e1 m1) fun (y109 : ApiPos × Int) => if ((y109.2 != 0) || (!((y109.1.X == p.X) && ((y109.1.Y == p.Y) && (y109.1.Z == p.Z))))) = true then some (Ex.ret false) else some (Ex.go ()) else some (Ex.go ())) = some (Ex.go () : Ex Bool Unit) := by
      cases h0 : (m2 == 0) with
      | false => rfl
      | true =>
        obtain rfl : m2 = 0 := by simpa using h0
        rw [if_pos rfl, mach_back hT hm, bindO_s]
        simp
    have e2 : (if (k2 == 0) = true then bindO (tb_Machine (theirsW t) a.e0 a.e1 k1) fun (y113 : ApiPos × Int) => if ((y113.2 != 0) || (!((y113.1.X == p.X) && ((y113.1.Y == p.Y) && (y113.1.Z == p.Z))))) = true then some (Ex.ret false) else some (Ex.go ()) else some (Ex.go ())) = some (Ex.go () : Ex Bool Unit) := by
      cases h0 : (k2 == 0) with
      | false => rfl
      | true =>
        obtain rfl : k2 = 0 := by simpa using h0
        rw [if_pos rfl, work_back hT hk, bindO_s]
        simp
    simp only [bindO_s, e1, e2]
    rfl

end Go.Proofs.YtiiglghanajfcaaDoor
