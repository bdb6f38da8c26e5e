import Derived.Test.YtipefnighcdgnaaGreatDoorIl
import Derived.Test.YtipefnighcdgnaaGreatDoorMLRound
namespace Go.Proofs.YtipefnighcdgnaaGreatDoor
open Go.RowKit
theorem decimalRound_plain (s : R03Surd) (h : inR03Surd s) : l06_DecimalRound s = some true := by
 obtain ⟨a1, a2, a3, a4, a5, a6⟩ := h
 obtain ⟨A, B, C, e, hA, hB, hC, h0⟩ := r03_Of_ok s a1 a2 a3 a4 a5 a6
 have hh : BQ 16 (A + 1 / 2) := by
  have := hA.add (BQ_frac (n := 1) (d := 2) (by omega) (by omega) (by omega) (by omega) (by omega))
  rw [half_eq] at this
  exact this
 unfold l06_DecimalRound
 rw [awake06, bindO_s]
 simp only [Bool.not_true, Bool.false_eq_true, if_false]
 rw [e, bindO_s, dc_Nearest_eq hA hB hC (by omega) h0, bindO_s, r06_Nearest_eq hA hB hC (by omega) h0, bindO_s, same_true (flR_Bd hh (hB.mono (by omega)) (hC.mono (by omega)) h0) (by omega), bindO_s]
 simp only [if_true]
 rw [dc_Down_eq hA hB hC (by omega) h0, bindO_s, r06_Down_eq hA hB hC (by omega) h0, bindO_s, same_true (flR_Bd hA hB hC h0) (by omega), bindO_s]
 simp only [if_true]
 rw [dc_Up_eq hA hB hC (by omega) h0, bindO_s, r06_Up_eq hA hB hC (by omega) h0, bindO_s, same_true (flR_Bd hA.neg hB.neg hC h0).neg (by omega)]
 rfl
end Go.Proofs.YtipefnighcdgnaaGreatDoor
