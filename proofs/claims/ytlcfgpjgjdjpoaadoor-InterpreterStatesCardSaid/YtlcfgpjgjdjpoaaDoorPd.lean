/-
  InterpreterStates: the plain part, with the bounds in which arguments come.
-/
import Derived.Test.YtlcfgpjgjdjpoaaDoorPc
import Derived.Test.YtlcfgpjgjdjpoaaDoorGp
namespace Go.Proofs.YtlcfgpjgjdjpoaaDoor
open Go.RowKit

theorem inU8 {n : Int} (h : inInt .u8 n) : 0 ≤ n ∧ n ≤ 255 := by
  simp [inInt, Lit.wf, IntKind.min, IntKind.max, IntKind.signed, IntKind.bits] at h
  omega
theorem interpreterStates_plain (l : List ApiBlock) (n : Int) (m : List ApiMotion) (h1 : inList inApiBlock l) (_ : inInt .i64 n) (h3 : inList inApiMotion m) : l47_InterpreterStates l n m = some true := by
  refine states_true l n m (fun b hb w hw => inU8 (((h1.2 b hb).2.1.2 w hw).1)) ?_ ?_
  · have := h1.1; unfold maxLen at this; omega
  · have := h3.1; unfold maxLen at this; omega

end Go.Proofs.YtlcfgpjgjdjpoaaDoor
