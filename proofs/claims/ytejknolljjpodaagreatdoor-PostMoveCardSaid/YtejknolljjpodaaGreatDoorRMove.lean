/-
  PostMove: what its mirror computes is true.
-/
import Derived.Test.YtejknolljjpodaaGreatDoorPo
import Derived.Test.YtejknolljjpodaaGreatDoorMLMove
namespace Go.Proofs.YtejknolljjpodaaGreatDoor
open Go.RowKit
set_option linter.unusedVariables false
set_option linter.unusedSimpArgs false

theorem in_i64 {n : Int} (h : (inInt .i64) n) : i64P n := by
  simp [inInt, Lit.wf, IntKind.min, IntKind.max, IntKind.signed, IntKind.bits] at h
  unfold i64P; omega
theorem postMove_plain (p : ApiPos) (m : ApiMove) (hp : inApiPos p) (hm : inApiMove m) : l46_PostMove p m = some true := by
  have h1 : okPos p := by obtain ⟨a, b, c⟩ := hp; exact ⟨in_i64 a, in_i64 b, in_i64 c⟩
  have h2 : okMove m := by
    obtain ⟨a, ⟨b1, b2, b3⟩, ⟨c1, c2⟩, d⟩ := hm
    exact ⟨in_i64 a, ⟨in_i64 b1, in_i64 b2, in_i64 b3⟩, in_i64 c1, in_i64 c2, in_i64 d⟩
  unfold l46_PostMove
  rw [awake46, bindO_s, if_neg (by simp), po_Move_eq h1 h2, bindO_s, r46_Move_eq h1 h2, bindO_s, beq_self_eq_true, if_pos rfl, r41_equal_eq _ _ (by have := movB_len p m; omega), decide_eq_true rfl]
  rfl
end Go.Proofs.YtejknolljjpodaaGreatDoor
