import Derived.Test.YtipefnighcdgnaaGreatDoorJh
import Derived.Test.YtipefnighcdgnaaGreatDoorMLFrom
namespace Go.Proofs.YtipefnighcdgnaaGreatDoor
open Go.RowKit
theorem decimalFrom_plain (s : List UInt8) (_ : inStr s) : l06_DecimalFrom s = some true := by
 unfold l06_DecimalFrom
 rw [awake06, bindO_s, if_pos rfl, bindO_s]
 by_cases hl : (s.length : Int) > 200
 ·rw [decide_eq_true hl]; rfl
 ·rw [decide_eq_false hl]
  simp only [Bool.false_eq_true, if_false]
  obtain ⟨neg, b, hs⟩ : ∃ neg b, strip s = (neg, b) := ⟨_, _, rfl⟩
  obtain ⟨w, p, pt, hc⟩ : ∃ w p pt, cutV b = (w, p, pt) := ⟨_, _, _, rfl⟩
  rw [dc_FromMillimetres_eq hs hc (by omega), bindO_s, r06_FromMillimetres_eq hs hc (by omega), bindO_s]
  simp
end Go.Proofs.YtipefnighcdgnaaGreatDoor
