/-
  PostChange: what its mirror computes is true.
-/
import Derived.Test.YtejknolljjpodaaGreatDoorPo
import Derived.Test.YtejknolljjpodaaGreatDoorMLChange
namespace Go.Proofs.YtejknolljjpodaaGreatDoor
open Go.RowKit
set_option linter.unusedVariables false
set_option linter.unusedSimpArgs false

theorem postChange_plain (n : Int) (o : R46Options) (hn : (inInt .i64) n) (ho : inR46Options o) : l46_PostChange n o = some true := by
  have hs : r41_Same (chgV n).1 (chgV n).1 = some true := by
    refine same_refl6 _ ?_ ?_
    · unfold chgV chgB; split <;> simp
    · unfold chgV chgB; split
      · simp
      · intro b hb
        simp at hb
        rcases hb with rfl | rfl <;> simp
  unfold l46_PostChange
  rw [awake46, bindO_s, if_neg (by simp), po_Change_eq, bindO_s, r46_Change_eq, bindO_s, beq_self_eq_true, if_pos rfl, hs, bindO_s, if_pos rfl, po_Valid_eq, bindO_s, r46_Valid_eq, bindO_s, beq_self_eq_true]
  rfl
end Go.Proofs.YtejknolljjpodaaGreatDoor
